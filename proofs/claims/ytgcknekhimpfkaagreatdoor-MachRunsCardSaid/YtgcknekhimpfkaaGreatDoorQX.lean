/- Exec of what is reckoned. -/
import Derived.Test.YtgcknekhimpfkaaGreatDoorQW
import Derived.Deep.DeepCutAuto
import Derived.Deep.CutRange
import Derived.RegionTactic
import Derived.ChangeAlike
set_option maxHeartbeats 1000000
namespace Go.Proofs.YtgcknekhimpfkaaGreatDoor
open Go Go.RowKit Go.Lib Go.Proofs.YtgcknekhimpfkaaGreatDoor.Pl
set_option linter.unusedVariables false
set_option linter.unusedSimpArgs false
attribute [local go_sem ↓] exec_load_cpu exec_store_cpu
set_option maxRecDepth 100000 in
theorem exec_op8t (cs : Array Value) (hc : CpuOk cs) (f : Int) (hf : f = 0 ∨ f = 1) (v : Bool) (a b c : Nat) (n l : Int) (hr : rightB f true v a b 8 c n = true) (w : World) (hT : Tab w) :
 Calls Tryz.prog 38 #[.agg cs, ins f true v a b 8 c n, .int .u32 l] w fun e w' => e = .returned (.tuple #[.agg (fin (((c21 cs).setIfInBounds 19 (.bool (addC (rgV cs b) (opX cs f v c n) (flV cs 19)))).setIfInBounds 20 (.bool (addV (rgV cs b) (opX cs f v c n) (flV cs 19)))) a (addS (rgV cs b) (opX cs f v c n) (flV cs 19))), .int .i64 0, .bool false]) ∧ Below w.heap.size w w' := by
 have hn := reck_n (hf) hr
 have hn0 := hn.1
 have hn1 := hn.2
 clear hn
 have ha : a ≤ 15 := by have := (right_inv hr).1; omega
 have hbb : b ≤ 15 := by have := (right_inv hr).2.1; omega
 have hcc : c ≤ 15 := by have := (right_inv hr).2.2.1; omega
 obtain ⟨hrc, hrc0, hrc1⟩ := hc.rg (k := c) (by omega)
 obtain ⟨hrb, hrb0, hrb1⟩ := hc.rg (k := b) (by omega)
 obtain ⟨hX0, hX1⟩ := opX_bd hc f v hcc hn0 hn1
 have hot := or_top n hn0 hn1
 have HRC := hid hrc
 have HRB := hid hrb
 clear hrc hrb
 have hf2 : (f == 2) = false := by simp; omega
 have hf3 : (f == 3) = false := by simp; omega
 have HT := tabHid hT
 clear hT
 obtain ⟨hpc, hp0, hp1⟩ := hc.pcV
 have HC := hid hc
 have HPC := hid hpc
 clear hc hpc
 unfold ins
 go_enter Tryz.func38, Tryz.ntmps38
 go_upto_region 3 with (go_at_call 53; refine (right_any _ _ _ _ _ _ _ _ _ (HT.out _ (by go_grown))).mono ?_; rintro e w1 ⟨rfl, hb1⟩; obtain ⟨h0, h1, h2, hs, hB⟩ := three hb1; clear hb1)
 have hl := load_cpu h0 HC.out.size
 have hst := store_new0 (w := w1) (t := 50) HC.out.size HC.out.one
 have h21 : w1.cell? ⟨w.heap.size, 21, none⟩ = some (.int .u32 (rgV cs 21)) := (h0.cell 21).trans HPC.out
 have key := exec_head h0 h1 h2 hs hB (.int .u32 ((rgV cs 21 + 4) % 4294967296))
 have hA := ((h0.old (.cells cs 50)).cell 21).trans HPC.out
 have hF := (h0.old (.cells cs 50)).frozen 21
 have H0 := hid h0
 have H1 := hid h1
 have HK := hid key
 clear h0 h1 h2 hB key
 go_upto_region 7 with fail
 clear hl hst h21 hA hF H0 H1
 obtain ⟨k0, k1, k2, k3, kB⟩ := HK.out
 clear HK
 generalize (w1.alloc (.cells cs 50)).setCell ⟨w.heap.size, 21, none⟩ (.int .u32 ((rgV cs 21 + 4) % 4294967296)) = W at k0 k1 k2 k3 kB ⊢
 have kT := HT.out W kB
 clear HT
 have k0 : Blk W w.heap.size (c21 cs) 50 := k0
 have i0 : W.cell? ⟨w.heap.size + 1, 0, none⟩ = some (.int .i64 f) := k1.cell 0
 have i1 : W.cell? ⟨w.heap.size + 1, 1, none⟩ = some (.bool true) := k1.cell 1
 have i2 : W.cell? ⟨w.heap.size + 1, 2, none⟩ = some (.bool v) := k1.cell 2
 have i3 : W.cell? ⟨w.heap.size + 1, 3, none⟩ = some (.int .i64 a) := k1.cell 3
 have i4 : W.cell? ⟨w.heap.size + 1, 4, none⟩ = some (.int .i64 b) := k1.cell 4
 have i5 : W.cell? ⟨w.heap.size + 1, 5, none⟩ = some (.int .i64 8) := k1.cell 5
 have i6 : W.cell? ⟨w.heap.size + 1, 6, none⟩ = some (.int .i64 c) := k1.cell 6
 have i7 : W.cell? ⟨w.heap.size + 1, 7, none⟩ = some (.int .i64 n) := k1.cell 7
 have oc := (k3.cell c).trans HRC.out
 have ob := (k3.cell b).trans HRB.out
 obtain ⟨x19, q19⟩ := at_some (n := 22) (k := 19) (c21_size HC.out.size) (by omega)
 have c19 := (k0.cell 19).trans q19
 clear q19
 obtain ⟨x20, q20⟩ := at_some (n := 22) (k := 20) (c21_size HC.out.size) (by omega)
 have c20 := (k0.cell 20).trans q20
 clear q20
 have cf := fun o => k0.frozen o
 have o19 := (k3.cell 19).trans HC.out.cV
 have K_k0 := hid k0
 clear k0
 have K_k1 := hid k1
 clear k1
 have K_k2 := hid k2
 clear k2
 have K_k3 := hid k3
 clear k3
 have K_kB := hid kB
 clear kB
 have K_kT := hid kT
 clear kT
 have K_i1 := hid i1
 clear i1
 have K_i3 := hid i3
 clear i3
 have K_i5 := hid i5
 clear i5
 go_upto_if 32 with fail
 go_cut [12] from 33 to 41 (fun s12 wx => s12 = .int .u32 (opX cs f v c n) ∧ W = wx)
 case first =>
  rcases hf with rfl | rfl
  ·go_wp2_with fail
   go_meet
   exact ⟨rfl, rfl⟩
  ·cases v
   ·go_wp2_with fail
    go_meet
    exact ⟨rfl, rfl⟩
   ·go_wp2_with fail
    go_meet
    exact ⟨rfl, rfl⟩
 case rest =>
  obtain ⟨rfl, rfl⟩ := hcut
  clear oc hot i0 i2 i6 i7
  have i1 := K_i1.out
  have i5 := K_i5.out
  go_upto_region 63 with (go_at_call 61; refine (add_any _ _ _ hrb0 hrb1 hX0 hX1 _).mono ?_; rintro e w' ⟨rfl, rfl⟩)
  obtain ⟨⟨xa, ta⟩, ⟨x17, t17⟩, ⟨x18, t18⟩, tf, hl, hst, hres⟩ := tailf ((K_k0.out.set 19 (.bool (addC (rgV cs b) (opX cs f v c n) (flV cs 19)))).set 20 (.bool (addV (rgV cs b) (opX cs f v c n) (flV cs 19)))) ((K_k2.out.far (by simp; omega) (p := ⟨w.heap.size, 19, none⟩) (.bool (addC (rgV cs b) (opX cs f v c n) (flV cs 19)))).far (by simp; omega) (p := ⟨w.heap.size, 20, none⟩) (.bool (addV (rgV cs b) (opX cs f v c n) (flV cs 19)))) (by omega) (by simp [c21, HC.out.size]) rfl (OneRow.set (OneRow.set (c21_one HC.out.one) 19 (v := .bool (addC (rgV cs b) (opX cs f v c n) (flV cs 19))) rfl) 20 (v := .bool (addV (rgV cs b) (opX cs f v c n) (flV cs 19))) rfl) a ha
  have hw : Hid (0 ≤ (addS (rgV cs b) (opX cs f v c n) (flV cs 19)) ∧ (addS (rgV cs b) (opX cs f v c n) (flV cs 19)) < 4294967296) := by unfold addS Hid; omega
  have hB := hid ((K_kB.out.setCell (p := ⟨w.heap.size, 19, none⟩) (Nat.le_refl _) (.bool (addC (rgV cs b) (opX cs f v c n) (flV cs 19)))).setCell (p := ⟨w.heap.size, 20, none⟩) (Nat.le_refl _) (.bool (addV (rgV cs b) (opX cs f v c n) (flV cs 19))))
  have i3 : ((W.setCell ⟨w.heap.size, 19, none⟩ (.bool (addC (rgV cs b) (opX cs f v c n) (flV cs 19)))).setCell ⟨w.heap.size, 20, none⟩ (.bool (addV (rgV cs b) (opX cs f v c n) (flV cs 19)))).cell? ⟨w.heap.size + 1, 3, none⟩ = some (.int .i64 a) := ((K_k1.out.far (by simp) (p := ⟨w.heap.size, 19, none⟩) (.bool (addC (rgV cs b) (opX cs f v c n) (flV cs 19)))).far (by simp) (p := ⟨w.heap.size, 20, none⟩) (.bool (addV (rgV cs b) (opX cs f v c n) (flV cs 19)))).cell 3
  have K_hres := hid hres
  clear hres
  clear ob hrc0 hrc1 c19 c20 cf
  generalize ((W.setCell ⟨w.heap.size, 19, none⟩ (.bool (addC (rgV cs b) (opX cs f v c n) (flV cs 19)))).setCell ⟨w.heap.size, 20, none⟩ (.bool (addV (rgV cs b) (opX cs f v c n) (flV cs 19)))) = W9 at ta t17 t18 tf hl hst K_hres hB i3 ⊢
  go_wp2_with fail
  have hres := K_hres.out
  refine bodyPost_ret (v := .tuple #[.agg (finR (((c21 cs).setIfInBounds 19 (.bool (addC (rgV cs b) (opX cs f v c n) (flV cs 19)))).setIfInBounds 20 (.bool (addV (rgV cs b) (opX cs f v c n) (flV cs 19)))) a (addS (rgV cs b) (opX cs f v c n) (flV cs 19)) ((addS (rgV cs b) (opX cs f v c n) (flV cs 19)) / 2147483648 != 0) ((addS (rgV cs b) (opX cs f v c n) (flV cs 19)) == 0)), .int .i64 0, .bool false]) ?_ rfl ⟨by rw [finR_fin _ _ _ hw.out.1 hw.out.2]; try rfl, belRow (bel_chain hB.out _ _ _ _) (by omega) _⟩
  simp [results, Tryz.results38, asAddr, hres]
set_option maxRecDepth 100000 in
theorem exec_op8f (cs : Array Value) (hc : CpuOk cs) (f : Int) (hf : f = 0 ∨ f = 1) (v : Bool) (a b c : Nat) (n l : Int) (hr : rightB f false v a b 8 c n = true) (w : World) (hT : Tab w) :
 Calls Tryz.prog 38 #[.agg cs, ins f false v a b 8 c n, .int .u32 l] w fun e w' => e = .returned (.tuple #[.agg (fin (((c21 cs).setIfInBounds 19 (.bool (addC (rgV cs b) (opX cs f v c n) false))).setIfInBounds 20 (.bool (addV (rgV cs b) (opX cs f v c n) false))) a (addS (rgV cs b) (opX cs f v c n) false)), .int .i64 0, .bool false]) ∧ Below w.heap.size w w' := by
 have hn := reck_n (hf) hr
 have hn0 := hn.1
 have hn1 := hn.2
 clear hn
 have ha : a ≤ 15 := by have := (right_inv hr).1; omega
 have hbb : b ≤ 15 := by have := (right_inv hr).2.1; omega
 have hcc : c ≤ 15 := by have := (right_inv hr).2.2.1; omega
 obtain ⟨hrc, hrc0, hrc1⟩ := hc.rg (k := c) (by omega)
 obtain ⟨hrb, hrb0, hrb1⟩ := hc.rg (k := b) (by omega)
 obtain ⟨hX0, hX1⟩ := opX_bd hc f v hcc hn0 hn1
 have hot := or_top n hn0 hn1
 have HRC := hid hrc
 have HRB := hid hrb
 clear hrc hrb
 have hf2 : (f == 2) = false := by simp; omega
 have hf3 : (f == 3) = false := by simp; omega
 have HT := tabHid hT
 clear hT
 obtain ⟨hpc, hp0, hp1⟩ := hc.pcV
 have HC := hid hc
 have HPC := hid hpc
 clear hc hpc
 unfold ins
 go_enter Tryz.func38, Tryz.ntmps38
 go_upto_region 3 with (go_at_call 53; refine (right_any _ _ _ _ _ _ _ _ _ (HT.out _ (by go_grown))).mono ?_; rintro e w1 ⟨rfl, hb1⟩; obtain ⟨h0, h1, h2, hs, hB⟩ := three hb1; clear hb1)
 have hl := load_cpu h0 HC.out.size
 have hst := store_new0 (w := w1) (t := 50) HC.out.size HC.out.one
 have h21 : w1.cell? ⟨w.heap.size, 21, none⟩ = some (.int .u32 (rgV cs 21)) := (h0.cell 21).trans HPC.out
 have key := exec_head h0 h1 h2 hs hB (.int .u32 ((rgV cs 21 + 4) % 4294967296))
 have hA := ((h0.old (.cells cs 50)).cell 21).trans HPC.out
 have hF := (h0.old (.cells cs 50)).frozen 21
 have H0 := hid h0
 have H1 := hid h1
 have HK := hid key
 clear h0 h1 h2 hB key
 go_upto_region 7 with fail
 clear hl hst h21 hA hF H0 H1
 obtain ⟨k0, k1, k2, k3, kB⟩ := HK.out
 clear HK
 generalize (w1.alloc (.cells cs 50)).setCell ⟨w.heap.size, 21, none⟩ (.int .u32 ((rgV cs 21 + 4) % 4294967296)) = W at k0 k1 k2 k3 kB ⊢
 have kT := HT.out W kB
 clear HT
 have k0 : Blk W w.heap.size (c21 cs) 50 := k0
 have i0 : W.cell? ⟨w.heap.size + 1, 0, none⟩ = some (.int .i64 f) := k1.cell 0
 have i1 : W.cell? ⟨w.heap.size + 1, 1, none⟩ = some (.bool false) := k1.cell 1
 have i2 : W.cell? ⟨w.heap.size + 1, 2, none⟩ = some (.bool v) := k1.cell 2
 have i3 : W.cell? ⟨w.heap.size + 1, 3, none⟩ = some (.int .i64 a) := k1.cell 3
 have i4 : W.cell? ⟨w.heap.size + 1, 4, none⟩ = some (.int .i64 b) := k1.cell 4
 have i5 : W.cell? ⟨w.heap.size + 1, 5, none⟩ = some (.int .i64 8) := k1.cell 5
 have i6 : W.cell? ⟨w.heap.size + 1, 6, none⟩ = some (.int .i64 c) := k1.cell 6
 have i7 : W.cell? ⟨w.heap.size + 1, 7, none⟩ = some (.int .i64 n) := k1.cell 7
 have oc := (k3.cell c).trans HRC.out
 have ob := (k3.cell b).trans HRB.out
 obtain ⟨x19, q19⟩ := at_some (n := 22) (k := 19) (c21_size HC.out.size) (by omega)
 have c19 := (k0.cell 19).trans q19
 clear q19
 obtain ⟨x20, q20⟩ := at_some (n := 22) (k := 20) (c21_size HC.out.size) (by omega)
 have c20 := (k0.cell 20).trans q20
 clear q20
 have cf := fun o => k0.frozen o
 have K_k0 := hid k0
 clear k0
 have K_k1 := hid k1
 clear k1
 have K_k2 := hid k2
 clear k2
 have K_k3 := hid k3
 clear k3
 have K_kB := hid kB
 clear kB
 have K_kT := hid kT
 clear kT
 have K_i1 := hid i1
 clear i1
 have K_i3 := hid i3
 clear i3
 have K_i5 := hid i5
 clear i5
 go_upto_if 32 with fail
 go_cut [12] from 33 to 41 (fun s12 wx => s12 = .int .u32 (opX cs f v c n) ∧ W = wx)
 case first =>
  rcases hf with rfl | rfl
  ·go_wp2_with fail
   go_meet
   exact ⟨rfl, rfl⟩
  ·cases v
   ·go_wp2_with fail
    go_meet
    exact ⟨rfl, rfl⟩
   ·go_wp2_with fail
    go_meet
    exact ⟨rfl, rfl⟩
 case rest =>
  obtain ⟨rfl, rfl⟩ := hcut
  clear oc hot i0 i2 i6 i7
  have i1 := K_i1.out
  have i5 := K_i5.out
  go_upto_region 63 with (go_at_call 61; refine (add_any _ _ _ hrb0 hrb1 hX0 hX1 _).mono ?_; rintro e w' ⟨rfl, rfl⟩)
  obtain ⟨⟨xa, ta⟩, ⟨x17, t17⟩, ⟨x18, t18⟩, tf, hl, hst, hres⟩ := tailf ((K_k0.out.set 19 (.bool (addC (rgV cs b) (opX cs f v c n) false))).set 20 (.bool (addV (rgV cs b) (opX cs f v c n) false))) ((K_k2.out.far (by simp; omega) (p := ⟨w.heap.size, 19, none⟩) (.bool (addC (rgV cs b) (opX cs f v c n) false))).far (by simp; omega) (p := ⟨w.heap.size, 20, none⟩) (.bool (addV (rgV cs b) (opX cs f v c n) false))) (by omega) (by simp [c21, HC.out.size]) rfl (OneRow.set (OneRow.set (c21_one HC.out.one) 19 (v := .bool (addC (rgV cs b) (opX cs f v c n) false)) rfl) 20 (v := .bool (addV (rgV cs b) (opX cs f v c n) false)) rfl) a ha
  have hw : Hid (0 ≤ (addS (rgV cs b) (opX cs f v c n) false) ∧ (addS (rgV cs b) (opX cs f v c n) false) < 4294967296) := by unfold addS Hid; omega
  have hB := hid ((K_kB.out.setCell (p := ⟨w.heap.size, 19, none⟩) (Nat.le_refl _) (.bool (addC (rgV cs b) (opX cs f v c n) false))).setCell (p := ⟨w.heap.size, 20, none⟩) (Nat.le_refl _) (.bool (addV (rgV cs b) (opX cs f v c n) false)))
  have i3 : ((W.setCell ⟨w.heap.size, 19, none⟩ (.bool (addC (rgV cs b) (opX cs f v c n) false))).setCell ⟨w.heap.size, 20, none⟩ (.bool (addV (rgV cs b) (opX cs f v c n) false))).cell? ⟨w.heap.size + 1, 3, none⟩ = some (.int .i64 a) := ((K_k1.out.far (by simp) (p := ⟨w.heap.size, 19, none⟩) (.bool (addC (rgV cs b) (opX cs f v c n) false))).far (by simp) (p := ⟨w.heap.size, 20, none⟩) (.bool (addV (rgV cs b) (opX cs f v c n) false))).cell 3
  have K_hres := hid hres
  clear hres
  clear ob hrc0 hrc1 c19 c20 cf
  generalize ((W.setCell ⟨w.heap.size, 19, none⟩ (.bool (addC (rgV cs b) (opX cs f v c n) false))).setCell ⟨w.heap.size, 20, none⟩ (.bool (addV (rgV cs b) (opX cs f v c n) false))) = W9 at ta t17 t18 tf hl hst K_hres hB i3 ⊢
  go_wp2_with fail
  have hres := K_hres.out
  refine bodyPost_ret (v := .tuple #[.agg (finR (((c21 cs).setIfInBounds 19 (.bool (addC (rgV cs b) (opX cs f v c n) false))).setIfInBounds 20 (.bool (addV (rgV cs b) (opX cs f v c n) false))) a (addS (rgV cs b) (opX cs f v c n) false) ((addS (rgV cs b) (opX cs f v c n) false) / 2147483648 != 0) ((addS (rgV cs b) (opX cs f v c n) false) == 0)), .int .i64 0, .bool false]) ?_ rfl ⟨by rw [finR_fin _ _ _ hw.out.1 hw.out.2]; try rfl, belRow (bel_chain hB.out _ _ _ _) (by omega) _⟩
  simp [results, Tryz.results38, asAddr, hres]
set_option maxRecDepth 100000 in
theorem exec_op9t (cs : Array Value) (hc : CpuOk cs) (f : Int) (hf : f = 0 ∨ f = 1) (v : Bool) (a b c : Nat) (n l : Int) (hr : rightB f true v a b 9 c n = true) (w : World) (hT : Tab w) :
 Calls Tryz.prog 38 #[.agg cs, ins f true v a b 9 c n, .int .u32 l] w fun e w' => e = .returned (.tuple #[.agg (fin (((c21 cs).setIfInBounds 19 (.bool (subC (rgV cs b) (opX cs f v c n) (flV cs 19)))).setIfInBounds 20 (.bool (subV (rgV cs b) (opX cs f v c n) (flV cs 19)))) a (subS (rgV cs b) (opX cs f v c n) (flV cs 19))), .int .i64 0, .bool false]) ∧ Below w.heap.size w w' := by
 have hn := reck_n (hf) hr
 have hn0 := hn.1
 have hn1 := hn.2
 clear hn
 have ha : a ≤ 15 := by have := (right_inv hr).1; omega
 have hbb : b ≤ 15 := by have := (right_inv hr).2.1; omega
 have hcc : c ≤ 15 := by have := (right_inv hr).2.2.1; omega
 obtain ⟨hrc, hrc0, hrc1⟩ := hc.rg (k := c) (by omega)
 obtain ⟨hrb, hrb0, hrb1⟩ := hc.rg (k := b) (by omega)
 obtain ⟨hX0, hX1⟩ := opX_bd hc f v hcc hn0 hn1
 have hot := or_top n hn0 hn1
 have HRC := hid hrc
 have HRB := hid hrb
 clear hrc hrb
 have hf2 : (f == 2) = false := by simp; omega
 have hf3 : (f == 3) = false := by simp; omega
 have HT := tabHid hT
 clear hT
 obtain ⟨hpc, hp0, hp1⟩ := hc.pcV
 have HC := hid hc
 have HPC := hid hpc
 clear hc hpc
 unfold ins
 go_enter Tryz.func38, Tryz.ntmps38
 go_upto_region 3 with (go_at_call 53; refine (right_any _ _ _ _ _ _ _ _ _ (HT.out _ (by go_grown))).mono ?_; rintro e w1 ⟨rfl, hb1⟩; obtain ⟨h0, h1, h2, hs, hB⟩ := three hb1; clear hb1)
 have hl := load_cpu h0 HC.out.size
 have hst := store_new0 (w := w1) (t := 50) HC.out.size HC.out.one
 have h21 : w1.cell? ⟨w.heap.size, 21, none⟩ = some (.int .u32 (rgV cs 21)) := (h0.cell 21).trans HPC.out
 have key := exec_head h0 h1 h2 hs hB (.int .u32 ((rgV cs 21 + 4) % 4294967296))
 have hA := ((h0.old (.cells cs 50)).cell 21).trans HPC.out
 have hF := (h0.old (.cells cs 50)).frozen 21
 have H0 := hid h0
 have H1 := hid h1
 have HK := hid key
 clear h0 h1 h2 hB key
 go_upto_region 7 with fail
 clear hl hst h21 hA hF H0 H1
 obtain ⟨k0, k1, k2, k3, kB⟩ := HK.out
 clear HK
 generalize (w1.alloc (.cells cs 50)).setCell ⟨w.heap.size, 21, none⟩ (.int .u32 ((rgV cs 21 + 4) % 4294967296)) = W at k0 k1 k2 k3 kB ⊢
 have kT := HT.out W kB
 clear HT
 have k0 : Blk W w.heap.size (c21 cs) 50 := k0
 have i0 : W.cell? ⟨w.heap.size + 1, 0, none⟩ = some (.int .i64 f) := k1.cell 0
 have i1 : W.cell? ⟨w.heap.size + 1, 1, none⟩ = some (.bool true) := k1.cell 1
 have i2 : W.cell? ⟨w.heap.size + 1, 2, none⟩ = some (.bool v) := k1.cell 2
 have i3 : W.cell? ⟨w.heap.size + 1, 3, none⟩ = some (.int .i64 a) := k1.cell 3
 have i4 : W.cell? ⟨w.heap.size + 1, 4, none⟩ = some (.int .i64 b) := k1.cell 4
 have i5 : W.cell? ⟨w.heap.size + 1, 5, none⟩ = some (.int .i64 9) := k1.cell 5
 have i6 : W.cell? ⟨w.heap.size + 1, 6, none⟩ = some (.int .i64 c) := k1.cell 6
 have i7 : W.cell? ⟨w.heap.size + 1, 7, none⟩ = some (.int .i64 n) := k1.cell 7
 have oc := (k3.cell c).trans HRC.out
 have ob := (k3.cell b).trans HRB.out
 obtain ⟨x19, q19⟩ := at_some (n := 22) (k := 19) (c21_size HC.out.size) (by omega)
 have c19 := (k0.cell 19).trans q19
 clear q19
 obtain ⟨x20, q20⟩ := at_some (n := 22) (k := 20) (c21_size HC.out.size) (by omega)
 have c20 := (k0.cell 20).trans q20
 clear q20
 have cf := fun o => k0.frozen o
 have o19 := (k3.cell 19).trans HC.out.cV
 have K_k0 := hid k0
 clear k0
 have K_k1 := hid k1
 clear k1
 have K_k2 := hid k2
 clear k2
 have K_k3 := hid k3
 clear k3
 have K_kB := hid kB
 clear kB
 have K_kT := hid kT
 clear kT
 have K_i1 := hid i1
 clear i1
 have K_i3 := hid i3
 clear i3
 have K_i5 := hid i5
 clear i5
 go_upto_if 32 with fail
 go_cut [12] from 33 to 41 (fun s12 wx => s12 = .int .u32 (opX cs f v c n) ∧ W = wx)
 case first =>
  rcases hf with rfl | rfl
  ·go_wp2_with fail
   go_meet
   exact ⟨rfl, rfl⟩
  ·cases v
   ·go_wp2_with fail
    go_meet
    exact ⟨rfl, rfl⟩
   ·go_wp2_with fail
    go_meet
    exact ⟨rfl, rfl⟩
 case rest =>
  obtain ⟨rfl, rfl⟩ := hcut
  clear oc hot i0 i2 i6 i7
  have i1 := K_i1.out
  have i5 := K_i5.out
  go_upto_region 63 with (go_at_call 62; refine (sub_any _ _ _ hrb0 hrb1 hX0 hX1 _).mono ?_; rintro e w' ⟨rfl, rfl⟩)
  obtain ⟨⟨xa, ta⟩, ⟨x17, t17⟩, ⟨x18, t18⟩, tf, hl, hst, hres⟩ := tailf ((K_k0.out.set 19 (.bool (subC (rgV cs b) (opX cs f v c n) (flV cs 19)))).set 20 (.bool (subV (rgV cs b) (opX cs f v c n) (flV cs 19)))) ((K_k2.out.far (by simp; omega) (p := ⟨w.heap.size, 19, none⟩) (.bool (subC (rgV cs b) (opX cs f v c n) (flV cs 19)))).far (by simp; omega) (p := ⟨w.heap.size, 20, none⟩) (.bool (subV (rgV cs b) (opX cs f v c n) (flV cs 19)))) (by omega) (by simp [c21, HC.out.size]) rfl (OneRow.set (OneRow.set (c21_one HC.out.one) 19 (v := .bool (subC (rgV cs b) (opX cs f v c n) (flV cs 19))) rfl) 20 (v := .bool (subV (rgV cs b) (opX cs f v c n) (flV cs 19))) rfl) a ha
  have hw : Hid (0 ≤ (subS (rgV cs b) (opX cs f v c n) (flV cs 19)) ∧ (subS (rgV cs b) (opX cs f v c n) (flV cs 19)) < 4294967296) := by unfold subS Hid; omega
  have hB := hid ((K_kB.out.setCell (p := ⟨w.heap.size, 19, none⟩) (Nat.le_refl _) (.bool (subC (rgV cs b) (opX cs f v c n) (flV cs 19)))).setCell (p := ⟨w.heap.size, 20, none⟩) (Nat.le_refl _) (.bool (subV (rgV cs b) (opX cs f v c n) (flV cs 19))))
  have i3 : ((W.setCell ⟨w.heap.size, 19, none⟩ (.bool (subC (rgV cs b) (opX cs f v c n) (flV cs 19)))).setCell ⟨w.heap.size, 20, none⟩ (.bool (subV (rgV cs b) (opX cs f v c n) (flV cs 19)))).cell? ⟨w.heap.size + 1, 3, none⟩ = some (.int .i64 a) := ((K_k1.out.far (by simp) (p := ⟨w.heap.size, 19, none⟩) (.bool (subC (rgV cs b) (opX cs f v c n) (flV cs 19)))).far (by simp) (p := ⟨w.heap.size, 20, none⟩) (.bool (subV (rgV cs b) (opX cs f v c n) (flV cs 19)))).cell 3
  have K_hres := hid hres
  clear hres
  clear ob hrc0 hrc1 c19 c20 cf
  generalize ((W.setCell ⟨w.heap.size, 19, none⟩ (.bool (subC (rgV cs b) (opX cs f v c n) (flV cs 19)))).setCell ⟨w.heap.size, 20, none⟩ (.bool (subV (rgV cs b) (opX cs f v c n) (flV cs 19)))) = W9 at ta t17 t18 tf hl hst K_hres hB i3 ⊢
  go_wp2_with fail
  have hres := K_hres.out
  refine bodyPost_ret (v := .tuple #[.agg (finR (((c21 cs).setIfInBounds 19 (.bool (subC (rgV cs b) (opX cs f v c n) (flV cs 19)))).setIfInBounds 20 (.bool (subV (rgV cs b) (opX cs f v c n) (flV cs 19)))) a (subS (rgV cs b) (opX cs f v c n) (flV cs 19)) ((subS (rgV cs b) (opX cs f v c n) (flV cs 19)) / 2147483648 != 0) ((subS (rgV cs b) (opX cs f v c n) (flV cs 19)) == 0)), .int .i64 0, .bool false]) ?_ rfl ⟨by rw [finR_fin _ _ _ hw.out.1 hw.out.2]; try rfl, belRow (bel_chain hB.out _ _ _ _) (by omega) _⟩
  simp [results, Tryz.results38, asAddr, hres]
set_option maxRecDepth 100000 in
theorem exec_op9f (cs : Array Value) (hc : CpuOk cs) (f : Int) (hf : f = 0 ∨ f = 1) (v : Bool) (a b c : Nat) (n l : Int) (hr : rightB f false v a b 9 c n = true) (w : World) (hT : Tab w) :
 Calls Tryz.prog 38 #[.agg cs, ins f false v a b 9 c n, .int .u32 l] w fun e w' => e = .returned (.tuple #[.agg (fin (((c21 cs).setIfInBounds 19 (.bool (subC (rgV cs b) (opX cs f v c n) false))).setIfInBounds 20 (.bool (subV (rgV cs b) (opX cs f v c n) false))) a (subS (rgV cs b) (opX cs f v c n) false)), .int .i64 0, .bool false]) ∧ Below w.heap.size w w' := by
 have hn := reck_n (hf) hr
 have hn0 := hn.1
 have hn1 := hn.2
 clear hn
 have ha : a ≤ 15 := by have := (right_inv hr).1; omega
 have hbb : b ≤ 15 := by have := (right_inv hr).2.1; omega
 have hcc : c ≤ 15 := by have := (right_inv hr).2.2.1; omega
 obtain ⟨hrc, hrc0, hrc1⟩ := hc.rg (k := c) (by omega)
 obtain ⟨hrb, hrb0, hrb1⟩ := hc.rg (k := b) (by omega)
 obtain ⟨hX0, hX1⟩ := opX_bd hc f v hcc hn0 hn1
 have hot := or_top n hn0 hn1
 have HRC := hid hrc
 have HRB := hid hrb
 clear hrc hrb
 have hf2 : (f == 2) = false := by simp; omega
 have hf3 : (f == 3) = false := by simp; omega
 have HT := tabHid hT
 clear hT
 obtain ⟨hpc, hp0, hp1⟩ := hc.pcV
 have HC := hid hc
 have HPC := hid hpc
 clear hc hpc
 unfold ins
 go_enter Tryz.func38, Tryz.ntmps38
 go_upto_region 3 with (go_at_call 53; refine (right_any _ _ _ _ _ _ _ _ _ (HT.out _ (by go_grown))).mono ?_; rintro e w1 ⟨rfl, hb1⟩; obtain ⟨h0, h1, h2, hs, hB⟩ := three hb1; clear hb1)
 have hl := load_cpu h0 HC.out.size
 have hst := store_new0 (w := w1) (t := 50) HC.out.size HC.out.one
 have h21 : w1.cell? ⟨w.heap.size, 21, none⟩ = some (.int .u32 (rgV cs 21)) := (h0.cell 21).trans HPC.out
 have key := exec_head h0 h1 h2 hs hB (.int .u32 ((rgV cs 21 + 4) % 4294967296))
 have hA := ((h0.old (.cells cs 50)).cell 21).trans HPC.out
 have hF := (h0.old (.cells cs 50)).frozen 21
 have H0 := hid h0
 have H1 := hid h1
 have HK := hid key
 clear h0 h1 h2 hB key
 go_upto_region 7 with fail
 clear hl hst h21 hA hF H0 H1
 obtain ⟨k0, k1, k2, k3, kB⟩ := HK.out
 clear HK
 generalize (w1.alloc (.cells cs 50)).setCell ⟨w.heap.size, 21, none⟩ (.int .u32 ((rgV cs 21 + 4) % 4294967296)) = W at k0 k1 k2 k3 kB ⊢
 have kT := HT.out W kB
 clear HT
 have k0 : Blk W w.heap.size (c21 cs) 50 := k0
 have i0 : W.cell? ⟨w.heap.size + 1, 0, none⟩ = some (.int .i64 f) := k1.cell 0
 have i1 : W.cell? ⟨w.heap.size + 1, 1, none⟩ = some (.bool false) := k1.cell 1
 have i2 : W.cell? ⟨w.heap.size + 1, 2, none⟩ = some (.bool v) := k1.cell 2
 have i3 : W.cell? ⟨w.heap.size + 1, 3, none⟩ = some (.int .i64 a) := k1.cell 3
 have i4 : W.cell? ⟨w.heap.size + 1, 4, none⟩ = some (.int .i64 b) := k1.cell 4
 have i5 : W.cell? ⟨w.heap.size + 1, 5, none⟩ = some (.int .i64 9) := k1.cell 5
 have i6 : W.cell? ⟨w.heap.size + 1, 6, none⟩ = some (.int .i64 c) := k1.cell 6
 have i7 : W.cell? ⟨w.heap.size + 1, 7, none⟩ = some (.int .i64 n) := k1.cell 7
 have oc := (k3.cell c).trans HRC.out
 have ob := (k3.cell b).trans HRB.out
 obtain ⟨x19, q19⟩ := at_some (n := 22) (k := 19) (c21_size HC.out.size) (by omega)
 have c19 := (k0.cell 19).trans q19
 clear q19
 obtain ⟨x20, q20⟩ := at_some (n := 22) (k := 20) (c21_size HC.out.size) (by omega)
 have c20 := (k0.cell 20).trans q20
 clear q20
 have cf := fun o => k0.frozen o
 have K_k0 := hid k0
 clear k0
 have K_k1 := hid k1
 clear k1
 have K_k2 := hid k2
 clear k2
 have K_k3 := hid k3
 clear k3
 have K_kB := hid kB
 clear kB
 have K_kT := hid kT
 clear kT
 have K_i1 := hid i1
 clear i1
 have K_i3 := hid i3
 clear i3
 have K_i5 := hid i5
 clear i5
 go_upto_if 32 with fail
 go_cut [12] from 33 to 41 (fun s12 wx => s12 = .int .u32 (opX cs f v c n) ∧ W = wx)
 case first =>
  rcases hf with rfl | rfl
  ·go_wp2_with fail
   go_meet
   exact ⟨rfl, rfl⟩
  ·cases v
   ·go_wp2_with fail
    go_meet
    exact ⟨rfl, rfl⟩
   ·go_wp2_with fail
    go_meet
    exact ⟨rfl, rfl⟩
 case rest =>
  obtain ⟨rfl, rfl⟩ := hcut
  clear oc hot i0 i2 i6 i7
  have i1 := K_i1.out
  have i5 := K_i5.out
  go_upto_region 63 with (go_at_call 62; refine (sub_any _ _ _ hrb0 hrb1 hX0 hX1 _).mono ?_; rintro e w' ⟨rfl, rfl⟩)
  obtain ⟨⟨xa, ta⟩, ⟨x17, t17⟩, ⟨x18, t18⟩, tf, hl, hst, hres⟩ := tailf ((K_k0.out.set 19 (.bool (subC (rgV cs b) (opX cs f v c n) false))).set 20 (.bool (subV (rgV cs b) (opX cs f v c n) false))) ((K_k2.out.far (by simp; omega) (p := ⟨w.heap.size, 19, none⟩) (.bool (subC (rgV cs b) (opX cs f v c n) false))).far (by simp; omega) (p := ⟨w.heap.size, 20, none⟩) (.bool (subV (rgV cs b) (opX cs f v c n) false))) (by omega) (by simp [c21, HC.out.size]) rfl (OneRow.set (OneRow.set (c21_one HC.out.one) 19 (v := .bool (subC (rgV cs b) (opX cs f v c n) false)) rfl) 20 (v := .bool (subV (rgV cs b) (opX cs f v c n) false)) rfl) a ha
  have hw : Hid (0 ≤ (subS (rgV cs b) (opX cs f v c n) false) ∧ (subS (rgV cs b) (opX cs f v c n) false) < 4294967296) := by unfold subS Hid; omega
  have hB := hid ((K_kB.out.setCell (p := ⟨w.heap.size, 19, none⟩) (Nat.le_refl _) (.bool (subC (rgV cs b) (opX cs f v c n) false))).setCell (p := ⟨w.heap.size, 20, none⟩) (Nat.le_refl _) (.bool (subV (rgV cs b) (opX cs f v c n) false)))
  have i3 : ((W.setCell ⟨w.heap.size, 19, none⟩ (.bool (subC (rgV cs b) (opX cs f v c n) false))).setCell ⟨w.heap.size, 20, none⟩ (.bool (subV (rgV cs b) (opX cs f v c n) false))).cell? ⟨w.heap.size + 1, 3, none⟩ = some (.int .i64 a) := ((K_k1.out.far (by simp) (p := ⟨w.heap.size, 19, none⟩) (.bool (subC (rgV cs b) (opX cs f v c n) false))).far (by simp) (p := ⟨w.heap.size, 20, none⟩) (.bool (subV (rgV cs b) (opX cs f v c n) false))).cell 3
  have K_hres := hid hres
  clear hres
  clear ob hrc0 hrc1 c19 c20 cf
  generalize ((W.setCell ⟨w.heap.size, 19, none⟩ (.bool (subC (rgV cs b) (opX cs f v c n) false))).setCell ⟨w.heap.size, 20, none⟩ (.bool (subV (rgV cs b) (opX cs f v c n) false))) = W9 at ta t17 t18 tf hl hst K_hres hB i3 ⊢
  go_wp2_with fail
  have hres := K_hres.out
  refine bodyPost_ret (v := .tuple #[.agg (finR (((c21 cs).setIfInBounds 19 (.bool (subC (rgV cs b) (opX cs f v c n) false))).setIfInBounds 20 (.bool (subV (rgV cs b) (opX cs f v c n) false))) a (subS (rgV cs b) (opX cs f v c n) false) ((subS (rgV cs b) (opX cs f v c n) false) / 2147483648 != 0) ((subS (rgV cs b) (opX cs f v c n) false) == 0)), .int .i64 0, .bool false]) ?_ rfl ⟨by rw [finR_fin _ _ _ hw.out.1 hw.out.2]; try rfl, belRow (bel_chain hB.out _ _ _ _) (by omega) _⟩
  simp [results, Tryz.results38, asAddr, hres]
end Go.Proofs.YtgcknekhimpfkaaGreatDoor
namespace Go.Proofs.YtgcknekhimpfkaaGreatDoor
open Go Go.RowKit Go.Lib Go.Proofs.YtgcknekhimpfkaaGreatDoor.Pl
set_option linter.unusedVariables false
set_option linter.unusedSimpArgs false
attribute [local go_sem ↓] exec_load_cpu exec_store_cpu
set_option maxRecDepth 100000 in
theorem exec_op10 (cs : Array Value) (hc : CpuOk cs) (f : Int) (hf : f = 0 ∨ f = 1) (u v : Bool) (a b c : Nat) (n l : Int) (hr : rightB f u v a b 10 c n = true) (w : World) (hT : Tab w) :
 Calls Tryz.prog 38 #[.agg cs, ins f u v a b 10 c n, .int .u32 l] w fun e w' => e = .returned (.tuple #[.agg (fin ((c21 cs).setIfInBounds 16 (.int .u32 (mulH (rgV cs b) (opX cs f v c n) u))) a (mulL (rgV cs b) (opX cs f v c n) u)), .int .i64 0, .bool false]) ∧ Below w.heap.size w w' := by
 have hn := reck_n (hf) hr
 have hn0 := hn.1
 have hn1 := hn.2
 clear hn
 have ha : a ≤ 15 := by have := (right_inv hr).1; omega
 have hbb : b ≤ 15 := by have := (right_inv hr).2.1; omega
 have hcc : c ≤ 15 := by have := (right_inv hr).2.2.1; omega
 obtain ⟨hrc, hrc0, hrc1⟩ := hc.rg (k := c) (by omega)
 obtain ⟨hrb, hrb0, hrb1⟩ := hc.rg (k := b) (by omega)
 obtain ⟨hX0, hX1⟩ := opX_bd hc f v hcc hn0 hn1
 have hot := or_top n hn0 hn1
 have HRC := hid hrc
 have HRB := hid hrb
 clear hrc hrb
 have hf2 : (f == 2) = false := by simp; omega
 have hf3 : (f == 3) = false := by simp; omega
 have HT := tabHid hT
 clear hT
 obtain ⟨hpc, hp0, hp1⟩ := hc.pcV
 have HC := hid hc
 have HPC := hid hpc
 clear hc hpc
 unfold ins
 go_enter Tryz.func38, Tryz.ntmps38
 go_upto_region 3 with (go_at_call 53; refine (right_any _ _ _ _ _ _ _ _ _ (HT.out _ (by go_grown))).mono ?_; rintro e w1 ⟨rfl, hb1⟩; obtain ⟨h0, h1, h2, hs, hB⟩ := three hb1; clear hb1)
 have hl := load_cpu h0 HC.out.size
 have hst := store_new0 (w := w1) (t := 50) HC.out.size HC.out.one
 have h21 : w1.cell? ⟨w.heap.size, 21, none⟩ = some (.int .u32 (rgV cs 21)) := (h0.cell 21).trans HPC.out
 have key := exec_head h0 h1 h2 hs hB (.int .u32 ((rgV cs 21 + 4) % 4294967296))
 have hA := ((h0.old (.cells cs 50)).cell 21).trans HPC.out
 have hF := (h0.old (.cells cs 50)).frozen 21
 have H0 := hid h0
 have H1 := hid h1
 have HK := hid key
 clear h0 h1 h2 hB key
 go_upto_region 7 with fail
 clear hl hst h21 hA hF H0 H1
 obtain ⟨k0, k1, k2, k3, kB⟩ := HK.out
 clear HK
 generalize (w1.alloc (.cells cs 50)).setCell ⟨w.heap.size, 21, none⟩ (.int .u32 ((rgV cs 21 + 4) % 4294967296)) = W at k0 k1 k2 k3 kB ⊢
 have kT := HT.out W kB
 clear HT
 have k0 : Blk W w.heap.size (c21 cs) 50 := k0
 have i0 : W.cell? ⟨w.heap.size + 1, 0, none⟩ = some (.int .i64 f) := k1.cell 0
 have i1 : W.cell? ⟨w.heap.size + 1, 1, none⟩ = some (.bool u) := k1.cell 1
 have i2 : W.cell? ⟨w.heap.size + 1, 2, none⟩ = some (.bool v) := k1.cell 2
 have i3 : W.cell? ⟨w.heap.size + 1, 3, none⟩ = some (.int .i64 a) := k1.cell 3
 have i4 : W.cell? ⟨w.heap.size + 1, 4, none⟩ = some (.int .i64 b) := k1.cell 4
 have i5 : W.cell? ⟨w.heap.size + 1, 5, none⟩ = some (.int .i64 10) := k1.cell 5
 have i6 : W.cell? ⟨w.heap.size + 1, 6, none⟩ = some (.int .i64 c) := k1.cell 6
 have i7 : W.cell? ⟨w.heap.size + 1, 7, none⟩ = some (.int .i64 n) := k1.cell 7
 have oc := (k3.cell c).trans HRC.out
 have ob := (k3.cell b).trans HRB.out
 obtain ⟨x16, q16⟩ := at_some (n := 22) (k := 16) (c21_size HC.out.size) (by omega)
 have c16 := (k0.cell 16).trans q16
 clear q16
 have cf := fun o => k0.frozen o
 have K_k0 := hid k0
 clear k0
 have K_k1 := hid k1
 clear k1
 have K_k2 := hid k2
 clear k2
 have K_k3 := hid k3
 clear k3
 have K_kB := hid kB
 clear kB
 have K_kT := hid kT
 clear kT
 have K_i1 := hid i1
 clear i1
 have K_i3 := hid i3
 clear i3
 have K_i5 := hid i5
 clear i5
 go_upto_if 32 with fail
 go_cut [12] from 33 to 41 (fun s12 wx => s12 = .int .u32 (opX cs f v c n) ∧ W = wx)
 case first =>
  rcases hf with rfl | rfl
  ·go_wp2_with fail
   go_meet
   exact ⟨rfl, rfl⟩
  ·cases v
   ·go_wp2_with fail
    go_meet
    exact ⟨rfl, rfl⟩
   ·go_wp2_with fail
    go_meet
    exact ⟨rfl, rfl⟩
 case rest =>
  obtain ⟨rfl, rfl⟩ := hcut
  clear oc hot i0 i2 i6 i7
  have i1 := K_i1.out
  have i5 := K_i5.out
  go_upto_region 63 with (go_at_call 63; refine (mul_any _ _ _ hrb0 hrb1 hX0 hX1 _).mono ?_; rintro e w' ⟨rfl, rfl⟩)
  obtain ⟨⟨xa, ta⟩, ⟨x17, t17⟩, ⟨x18, t18⟩, tf, hl, hst, hres⟩ := tailf (K_k0.out.set 16 (.int .u32 (mulH (rgV cs b) (opX cs f v c n) u))) (K_k2.out.far (by simp; omega) (p := ⟨w.heap.size, 16, none⟩) (.int .u32 (mulH (rgV cs b) (opX cs f v c n) u))) (by omega) (by simp [c21, HC.out.size]) rfl (OneRow.set (c21_one HC.out.one) 16 (v := .int .u32 (mulH (rgV cs b) (opX cs f v c n) u)) rfl) a ha
  have hw : Hid (0 ≤ (mulL (rgV cs b) (opX cs f v c n) u) ∧ (mulL (rgV cs b) (opX cs f v c n) u) < 4294967296) := by unfold mulL Hid; omega
  have hB := hid (K_kB.out.setCell (p := ⟨w.heap.size, 16, none⟩) (Nat.le_refl _) (.int .u32 (mulH (rgV cs b) (opX cs f v c n) u)))
  have i3 : (W.setCell ⟨w.heap.size, 16, none⟩ (.int .u32 (mulH (rgV cs b) (opX cs f v c n) u))).cell? ⟨w.heap.size + 1, 3, none⟩ = some (.int .i64 a) := (K_k1.out.far (by simp) (p := ⟨w.heap.size, 16, none⟩) (.int .u32 (mulH (rgV cs b) (opX cs f v c n) u))).cell 3
  have K_hres := hid hres
  clear hres
  go_wp2_with fail
  have hres := K_hres.out
  refine bodyPost_ret (v := .tuple #[.agg (finR ((c21 cs).setIfInBounds 16 (.int .u32 (mulH (rgV cs b) (opX cs f v c n) u))) a (mulL (rgV cs b) (opX cs f v c n) u) ((mulL (rgV cs b) (opX cs f v c n) u) / 2147483648 != 0) ((mulL (rgV cs b) (opX cs f v c n) u) == 0)), .int .i64 0, .bool false]) ?_ rfl ⟨by rw [finR_fin _ _ _ hw.out.1 hw.out.2]; try rfl, belRow (bel_chain hB.out _ _ _ _) (by omega) _⟩
  simp [results, Tryz.results38, asAddr, hres]
set_option maxRecDepth 100000 in
theorem exec_op11y (cs : Array Value) (hc : CpuOk cs) (f : Int) (hf : f = 0 ∨ f = 1) (u v : Bool) (a b c : Nat) (n l : Int) (hok : divOk (opX cs f v c n) = true) (hr : rightB f u v a b 11 c n = true) (w : World) (hT : Tab w) :
 Calls Tryz.prog 38 #[.agg cs, ins f u v a b 11 c n, .int .u32 l] w fun e w' => e = .returned (.tuple #[.agg (fin ((c21 cs).setIfInBounds 16 (.int .u32 (divR (rgV cs b) (opX cs f v c n)))) a (divQ (rgV cs b) (opX cs f v c n))), .int .i64 0, .bool false]) ∧ Below w.heap.size w w' := by
 have hn := reck_n (hf) hr
 have hn0 := hn.1
 have hn1 := hn.2
 clear hn
 have ha : a ≤ 15 := by have := (right_inv hr).1; omega
 have hbb : b ≤ 15 := by have := (right_inv hr).2.1; omega
 have hcc : c ≤ 15 := by have := (right_inv hr).2.2.1; omega
 obtain ⟨hrc, hrc0, hrc1⟩ := hc.rg (k := c) (by omega)
 obtain ⟨hrb, hrb0, hrb1⟩ := hc.rg (k := b) (by omega)
 obtain ⟨hX0, hX1⟩ := opX_bd hc f v hcc hn0 hn1
 have hot := or_top n hn0 hn1
 have HRC := hid hrc
 have HRB := hid hrb
 clear hrc hrb
 have hf2 : (f == 2) = false := by simp; omega
 have hf3 : (f == 3) = false := by simp; omega
 have HT := tabHid hT
 clear hT
 obtain ⟨hpc, hp0, hp1⟩ := hc.pcV
 have HC := hid hc
 have HPC := hid hpc
 clear hc hpc
 unfold ins
 go_enter Tryz.func38, Tryz.ntmps38
 go_upto_region 3 with (go_at_call 53; refine (right_any _ _ _ _ _ _ _ _ _ (HT.out _ (by go_grown))).mono ?_; rintro e w1 ⟨rfl, hb1⟩; obtain ⟨h0, h1, h2, hs, hB⟩ := three hb1; clear hb1)
 have hl := load_cpu h0 HC.out.size
 have hst := store_new0 (w := w1) (t := 50) HC.out.size HC.out.one
 have h21 : w1.cell? ⟨w.heap.size, 21, none⟩ = some (.int .u32 (rgV cs 21)) := (h0.cell 21).trans HPC.out
 have key := exec_head h0 h1 h2 hs hB (.int .u32 ((rgV cs 21 + 4) % 4294967296))
 have hA := ((h0.old (.cells cs 50)).cell 21).trans HPC.out
 have hF := (h0.old (.cells cs 50)).frozen 21
 have H0 := hid h0
 have H1 := hid h1
 have HK := hid key
 clear h0 h1 h2 hB key
 go_upto_region 7 with fail
 clear hl hst h21 hA hF H0 H1
 obtain ⟨k0, k1, k2, k3, kB⟩ := HK.out
 clear HK
 generalize (w1.alloc (.cells cs 50)).setCell ⟨w.heap.size, 21, none⟩ (.int .u32 ((rgV cs 21 + 4) % 4294967296)) = W at k0 k1 k2 k3 kB ⊢
 have kT := HT.out W kB
 clear HT
 have k0 : Blk W w.heap.size (c21 cs) 50 := k0
 have i0 : W.cell? ⟨w.heap.size + 1, 0, none⟩ = some (.int .i64 f) := k1.cell 0
 have i1 : W.cell? ⟨w.heap.size + 1, 1, none⟩ = some (.bool u) := k1.cell 1
 have i2 : W.cell? ⟨w.heap.size + 1, 2, none⟩ = some (.bool v) := k1.cell 2
 have i3 : W.cell? ⟨w.heap.size + 1, 3, none⟩ = some (.int .i64 a) := k1.cell 3
 have i4 : W.cell? ⟨w.heap.size + 1, 4, none⟩ = some (.int .i64 b) := k1.cell 4
 have i5 : W.cell? ⟨w.heap.size + 1, 5, none⟩ = some (.int .i64 11) := k1.cell 5
 have i6 : W.cell? ⟨w.heap.size + 1, 6, none⟩ = some (.int .i64 c) := k1.cell 6
 have i7 : W.cell? ⟨w.heap.size + 1, 7, none⟩ = some (.int .i64 n) := k1.cell 7
 have oc := (k3.cell c).trans HRC.out
 have ob := (k3.cell b).trans HRB.out
 obtain ⟨x16, q16⟩ := at_some (n := 22) (k := 16) (c21_size HC.out.size) (by omega)
 have c16 := (k0.cell 16).trans q16
 clear q16
 have cf := fun o => k0.frozen o
 have K_k0 := hid k0
 clear k0
 have K_k1 := hid k1
 clear k1
 have K_k2 := hid k2
 clear k2
 have K_k3 := hid k3
 clear k3
 have K_kB := hid kB
 clear kB
 have K_kT := hid kT
 clear kT
 have K_i1 := hid i1
 clear i1
 have K_i3 := hid i3
 clear i3
 have K_i5 := hid i5
 clear i5
 go_upto_if 32 with fail
 go_cut [12] from 33 to 41 (fun s12 wx => s12 = .int .u32 (opX cs f v c n) ∧ W = wx)
 case first =>
  rcases hf with rfl | rfl
  ·go_wp2_with fail
   go_meet
   exact ⟨rfl, rfl⟩
  ·cases v
   ·go_wp2_with fail
    go_meet
    exact ⟨rfl, rfl⟩
   ·go_wp2_with fail
    go_meet
    exact ⟨rfl, rfl⟩
 case rest =>
  obtain ⟨rfl, rfl⟩ := hcut
  clear oc hot i0 i2 i6 i7
  have i1 := K_i1.out
  have i5 := K_i5.out
  go_upto_region 63 with (go_at_call 64; refine (div_any _ _ hrb0 hrb1 hX0 hX1 _).mono ?_; rintro e w' ⟨rfl, nq, rfl⟩)
  obtain ⟨⟨xa, ta⟩, ⟨x17, t17⟩, ⟨x18, t18⟩, tf, hl, hst, hres⟩ := tailf ((Blk.drewN K_k0.out nq).set 16 (.int .u32 (divR (rgV cs b) (opX cs f v c n)))) ((Blk.drewN K_k2.out nq).far (by simp; omega) (p := ⟨w.heap.size, 16, none⟩) (.int .u32 (divR (rgV cs b) (opX cs f v c n)))) (by omega) (by simp [c21, HC.out.size]) rfl (OneRow.set (c21_one HC.out.one) 16 (v := .int .u32 (divR (rgV cs b) (opX cs f v c n))) rfl) a ha
  have hw : Hid (0 ≤ (divQ (rgV cs b) (opX cs f v c n)) ∧ (divQ (rgV cs b) (opX cs f v c n)) < 4294967296) := by unfold divQ Hid; split <;> omega
  have hB := hid ((belN K_kB.out nq).setCell (p := ⟨w.heap.size, 16, none⟩) (Nat.le_refl _) (.int .u32 (divR (rgV cs b) (opX cs f v c n))))
  have i3 : ((W.drewN nq).setCell ⟨w.heap.size, 16, none⟩ (.int .u32 (divR (rgV cs b) (opX cs f v c n)))).cell? ⟨w.heap.size + 1, 3, none⟩ = some (.int .i64 a) := ((Blk.drewN K_k1.out nq).far (by simp) (p := ⟨w.heap.size, 16, none⟩) (.int .u32 (divR (rgV cs b) (opX cs f v c n)))).cell 3
  have K_hres := hid hres
  clear hres
  go_wp2_with fail
  have hres := K_hres.out
  refine bodyPost_ret (v := .tuple #[.agg (finR ((c21 cs).setIfInBounds 16 (.int .u32 (divR (rgV cs b) (opX cs f v c n)))) a (divQ (rgV cs b) (opX cs f v c n)) ((divQ (rgV cs b) (opX cs f v c n)) / 2147483648 != 0) ((divQ (rgV cs b) (opX cs f v c n)) == 0)), .int .i64 0, .bool false]) ?_ rfl ⟨by rw [finR_fin _ _ _ hw.out.1 hw.out.2]; try rfl, belRow (bel_chain hB.out _ _ _ _) (by omega) _⟩
  simp [results, Tryz.results38, asAddr, hres]
set_option maxRecDepth 100000 in
theorem exec_op11n (cs : Array Value) (hc : CpuOk cs) (f : Int) (hf : f = 0 ∨ f = 1) (u v : Bool) (a b c : Nat) (n l : Int) (hok : divOk (opX cs f v c n) = false) (hr : rightB f u v a b 11 c n = true) (w : World) (hT : Tab w) :
 Calls Tryz.prog 38 #[.agg cs, ins f u v a b 11 c n, .int .u32 l] w fun e w' => e = .returned (.tuple #[.agg cs, .int .i64 6, .bool true]) ∧ Below w.heap.size w w' := by
 have hn := reck_n (hf) hr
 have hn0 := hn.1
 have hn1 := hn.2
 clear hn
 have ha : a ≤ 15 := by have := (right_inv hr).1; omega
 have hbb : b ≤ 15 := by have := (right_inv hr).2.1; omega
 have hcc : c ≤ 15 := by have := (right_inv hr).2.2.1; omega
 obtain ⟨hrc, hrc0, hrc1⟩ := hc.rg (k := c) (by omega)
 obtain ⟨hrb, hrb0, hrb1⟩ := hc.rg (k := b) (by omega)
 obtain ⟨hX0, hX1⟩ := opX_bd hc f v hcc hn0 hn1
 have hot := or_top n hn0 hn1
 have HRC := hid hrc
 have HRB := hid hrb
 clear hrc hrb
 have hf2 : (f == 2) = false := by simp; omega
 have hf3 : (f == 3) = false := by simp; omega
 have HT := tabHid hT
 clear hT
 obtain ⟨hpc, hp0, hp1⟩ := hc.pcV
 have HC := hid hc
 have HPC := hid hpc
 clear hc hpc
 unfold ins
 go_enter Tryz.func38, Tryz.ntmps38
 go_upto_region 3 with (go_at_call 53; refine (right_any _ _ _ _ _ _ _ _ _ (HT.out _ (by go_grown))).mono ?_; rintro e w1 ⟨rfl, hb1⟩; obtain ⟨h0, h1, h2, hs, hB⟩ := three hb1; clear hb1)
 have hl := load_cpu h0 HC.out.size
 have hst := store_new0 (w := w1) (t := 50) HC.out.size HC.out.one
 have h21 : w1.cell? ⟨w.heap.size, 21, none⟩ = some (.int .u32 (rgV cs 21)) := (h0.cell 21).trans HPC.out
 have key := exec_head h0 h1 h2 hs hB (.int .u32 ((rgV cs 21 + 4) % 4294967296))
 have hA := ((h0.old (.cells cs 50)).cell 21).trans HPC.out
 have hF := (h0.old (.cells cs 50)).frozen 21
 have H0 := hid h0
 have H1 := hid h1
 have HK := hid key
 clear h0 h1 h2 hB key
 go_upto_region 7 with fail
 clear hl hst h21 hA hF H0 H1
 obtain ⟨k0, k1, k2, k3, kB⟩ := HK.out
 clear HK
 generalize (w1.alloc (.cells cs 50)).setCell ⟨w.heap.size, 21, none⟩ (.int .u32 ((rgV cs 21 + 4) % 4294967296)) = W at k0 k1 k2 k3 kB ⊢
 have kT := HT.out W kB
 clear HT
 have k0 : Blk W w.heap.size (c21 cs) 50 := k0
 have i0 : W.cell? ⟨w.heap.size + 1, 0, none⟩ = some (.int .i64 f) := k1.cell 0
 have i1 : W.cell? ⟨w.heap.size + 1, 1, none⟩ = some (.bool u) := k1.cell 1
 have i2 : W.cell? ⟨w.heap.size + 1, 2, none⟩ = some (.bool v) := k1.cell 2
 have i3 : W.cell? ⟨w.heap.size + 1, 3, none⟩ = some (.int .i64 a) := k1.cell 3
 have i4 : W.cell? ⟨w.heap.size + 1, 4, none⟩ = some (.int .i64 b) := k1.cell 4
 have i5 : W.cell? ⟨w.heap.size + 1, 5, none⟩ = some (.int .i64 11) := k1.cell 5
 have i6 : W.cell? ⟨w.heap.size + 1, 6, none⟩ = some (.int .i64 c) := k1.cell 6
 have i7 : W.cell? ⟨w.heap.size + 1, 7, none⟩ = some (.int .i64 n) := k1.cell 7
 have oc := (k3.cell c).trans HRC.out
 have ob := (k3.cell b).trans HRB.out
 obtain ⟨x16, q16⟩ := at_some (n := 22) (k := 16) (c21_size HC.out.size) (by omega)
 have c16 := (k0.cell 16).trans q16
 clear q16
 have cf := fun o => k0.frozen o
 have K_k0 := hid k0
 clear k0
 have K_k1 := hid k1
 clear k1
 have K_k2 := hid k2
 clear k2
 have K_k3 := hid k3
 clear k3
 have K_kB := hid kB
 clear kB
 have K_kT := hid kT
 clear kT
 have K_i1 := hid i1
 clear i1
 have K_i3 := hid i3
 clear i3
 have K_i5 := hid i5
 clear i5
 go_upto_if 32 with fail
 go_cut [12] from 33 to 41 (fun s12 wx => s12 = .int .u32 (opX cs f v c n) ∧ W = wx)
 case first =>
  rcases hf with rfl | rfl
  ·go_wp2_with fail
   go_meet
   exact ⟨rfl, rfl⟩
  ·cases v
   ·go_wp2_with fail
    go_meet
    exact ⟨rfl, rfl⟩
   ·go_wp2_with fail
    go_meet
    exact ⟨rfl, rfl⟩
 case rest =>
  obtain ⟨rfl, rfl⟩ := hcut
  clear oc hot i0 i2 i6 i7
  have i1 := K_i1.out
  have i5 := K_i5.out
  go_upto_region 46 with (go_at_call 64; refine (div_any _ _ hrb0 hrb1 hX0 hX1 _).mono ?_; rintro e w' ⟨rfl, nq, rfl⟩)
  have K3 := ((Blk.drewN K_k3.out nq).far (by simp; omega) (p := ⟨w.heap.size, 16, none⟩) (.int .u32 (divR (rgV cs b) (opX cs f v c n))))
  have hl := load_cpu K3 HC.out.size
  have hst := store_cpu ((Blk.drewN K_k2.out nq).far (by simp; omega) (p := ⟨w.heap.size, 16, none⟩) (.int .u32 (divR (rgV cs b) (opX cs f v c n)))) rfl HC.out.size HC.out.one
  have hres := loadVar_cpu (Blk.setRow ((Blk.drewN K_k2.out nq).far (by simp; omega) (p := ⟨w.heap.size, 16, none⟩) (.int .u32 (divR (rgV cs b) (opX cs f v c n)))) cs) HC.out.size
  have K_hres := hid hres
  have hB := hid (belRow ((belN K_kB.out nq).setCell (p := ⟨w.heap.size, 16, none⟩) (Nat.le_refl _) (.int .u32 (divR (rgV cs b) (opX cs f v c n)))) (g := w.heap.size + 1 + 1) (by omega) cs)
  clear hres K3
  go_wp2_with fail
  have hres := K_hres.out
  refine bodyPost_ret (v := .tuple #[.agg cs, .int .i64 6, .bool true]) ?_ rfl ⟨rfl, hB.out⟩
  simp [results, Tryz.results38, asAddr, hres]
end Go.Proofs.YtgcknekhimpfkaaGreatDoor
namespace Go.Proofs.YtgcknekhimpfkaaGreatDoor
open Go Go.RowKit Go.Lib Go.Proofs.YtgcknekhimpfkaaGreatDoor.Pl
set_option linter.unusedVariables false
set_option linter.unusedSimpArgs false
attribute [local go_sem ↓] exec_load_cpu exec_store_cpu
set_option maxRecDepth 100000 in
theorem exec_op0n (cs : Array Value) (hc : CpuOk cs) (f : Int) (hf : f = 0 ∨ f = 1) (v : Bool) (a b c : Nat) (n l : Int) (hr : rightB f false v a b 0 c n = true) (w : World) (hT : Tab w) :
 Calls Tryz.prog 38 #[.agg cs, ins f false v a b 0 c n, .int .u32 l] w fun e w' => e = .returned (.tuple #[.agg (fin (c21 cs) a ((opX cs f v c n))), .int .i64 0, .bool false]) ∧ Below w.heap.size w w' := by
 have hn := reck_n (hf) hr
 have hn0 := hn.1
 have hn1 := hn.2
 clear hn
 have ha : a ≤ 15 := by have := (right_inv hr).1; omega
 have hbb : b ≤ 15 := by have := (right_inv hr).2.1; omega
 have hcc : c ≤ 15 := by have := (right_inv hr).2.2.1; omega
 obtain ⟨hrc, hrc0, hrc1⟩ := hc.rg (k := c) (by omega)
 obtain ⟨hrb, hrb0, hrb1⟩ := hc.rg (k := b) (by omega)
 obtain ⟨hX0, hX1⟩ := opX_bd hc f v hcc hn0 hn1
 have hot := or_top n hn0 hn1
 have HRC := hid hrc
 have HRB := hid hrb
 clear hrc hrb
 have hf2 : (f == 2) = false := by simp; omega
 have hf3 : (f == 3) = false := by simp; omega
 have HT := tabHid hT
 clear hT
 obtain ⟨hpc, hp0, hp1⟩ := hc.pcV
 have HC := hid hc
 have HPC := hid hpc
 clear hc hpc
 unfold ins
 go_enter Tryz.func38, Tryz.ntmps38
 go_upto_region 3 with (go_at_call 53; refine (right_any _ _ _ _ _ _ _ _ _ (HT.out _ (by go_grown))).mono ?_; rintro e w1 ⟨rfl, hb1⟩; obtain ⟨h0, h1, h2, hs, hB⟩ := three hb1; clear hb1)
 have hl := load_cpu h0 HC.out.size
 have hst := store_new0 (w := w1) (t := 50) HC.out.size HC.out.one
 have h21 : w1.cell? ⟨w.heap.size, 21, none⟩ = some (.int .u32 (rgV cs 21)) := (h0.cell 21).trans HPC.out
 have key := exec_head h0 h1 h2 hs hB (.int .u32 ((rgV cs 21 + 4) % 4294967296))
 have hA := ((h0.old (.cells cs 50)).cell 21).trans HPC.out
 have hF := (h0.old (.cells cs 50)).frozen 21
 have H0 := hid h0
 have H1 := hid h1
 have HK := hid key
 clear h0 h1 h2 hB key
 go_upto_region 7 with fail
 clear hl hst h21 hA hF H0 H1
 obtain ⟨k0, k1, k2, k3, kB⟩ := HK.out
 clear HK
 generalize (w1.alloc (.cells cs 50)).setCell ⟨w.heap.size, 21, none⟩ (.int .u32 ((rgV cs 21 + 4) % 4294967296)) = W at k0 k1 k2 k3 kB ⊢
 have kT := HT.out W kB
 clear HT
 have k0 : Blk W w.heap.size (c21 cs) 50 := k0
 have i0 : W.cell? ⟨w.heap.size + 1, 0, none⟩ = some (.int .i64 f) := k1.cell 0
 have i1 : W.cell? ⟨w.heap.size + 1, 1, none⟩ = some (.bool false) := k1.cell 1
 have i2 : W.cell? ⟨w.heap.size + 1, 2, none⟩ = some (.bool v) := k1.cell 2
 have i3 : W.cell? ⟨w.heap.size + 1, 3, none⟩ = some (.int .i64 a) := k1.cell 3
 have i4 : W.cell? ⟨w.heap.size + 1, 4, none⟩ = some (.int .i64 b) := k1.cell 4
 have i5 : W.cell? ⟨w.heap.size + 1, 5, none⟩ = some (.int .i64 0) := k1.cell 5
 have i6 : W.cell? ⟨w.heap.size + 1, 6, none⟩ = some (.int .i64 c) := k1.cell 6
 have i7 : W.cell? ⟨w.heap.size + 1, 7, none⟩ = some (.int .i64 n) := k1.cell 7
 have oc := (k3.cell c).trans HRC.out
 have ob := (k3.cell b).trans HRB.out
 have K_k0 := hid k0
 clear k0
 have K_k1 := hid k1
 clear k1
 have K_k2 := hid k2
 clear k2
 have K_k3 := hid k3
 clear k3
 have K_kB := hid kB
 clear kB
 have K_kT := hid kT
 clear kT
 have K_i1 := hid i1
 clear i1
 have K_i3 := hid i3
 clear i3
 have K_i5 := hid i5
 clear i5
 go_upto_if 32 with fail
 go_cut [12] from 33 to 41 (fun s12 wx => s12 = .int .u32 (opX cs f v c n) ∧ W = wx)
 case first =>
  rcases hf with rfl | rfl
  ·go_wp2_with fail
   go_meet
   exact ⟨rfl, rfl⟩
  ·cases v
   ·go_wp2_with fail
    go_meet
    exact ⟨rfl, rfl⟩
   ·go_wp2_with fail
    go_meet
    exact ⟨rfl, rfl⟩
 case rest =>
  obtain ⟨rfl, rfl⟩ := hcut
  clear oc hot i6 i7
  have i1 := K_i1.out
  have i5 := K_i5.out
  go_upto_region 63 with fail
  obtain ⟨⟨xa, ta⟩, ⟨x17, t17⟩, ⟨x18, t18⟩, tf, hl, hst, hres⟩ := tailf K_k0.out K_k2.out (by omega) (by simp [c21, HC.out.size]) rfl (c21_one HC.out.one) a ha
  have hw : Hid (0 ≤ ((opX cs f v c n)) ∧ ((opX cs f v c n)) < 4294967296) := ⟨hX0, hX1⟩
  have hB := hid K_kB.out
  have i3 : W.cell? ⟨w.heap.size + 1, 3, none⟩ = some (.int .i64 a) := K_k1.out.cell 3
  have K_hres := hid hres
  clear hres
  go_wp2_with fail
  have hres := K_hres.out
  refine bodyPost_ret (v := .tuple #[.agg (finR (c21 cs) a ((opX cs f v c n)) (((opX cs f v c n)) / 2147483648 != 0) (((opX cs f v c n)) == 0)), .int .i64 0, .bool false]) ?_ rfl ⟨by rw [finR_fin _ _ _ hw.out.1 hw.out.2]; try rfl, belRow (bel_chain hB.out _ _ _ _) (by omega) _⟩
  simp [results, Tryz.results38, asAddr, hres]
set_option maxRecDepth 100000 in
theorem exec_op0u1 (cs : Array Value) (hc : CpuOk cs) (v : Bool) (a b c : Nat) (n l : Int) (hr : rightB 1 true v a b 0 c n = true) (w : World) (hT : Tab w) :
 Calls Tryz.prog 38 #[.agg cs, ins 1 true v a b 0 c n, .int .u32 l] w fun e w' => e = .returned (.tuple #[.agg (fin (c21 cs) a ((opX cs 1 v c n) * 65536 % 4294967296)), .int .i64 0, .bool false]) ∧ Below w.heap.size w w' := by
 have hn := reck_n (by omega) hr
 have hn0 := hn.1
 have hn1 := hn.2
 clear hn
 have ha : a ≤ 15 := by have := (right_inv hr).1; omega
 have hbb : b ≤ 15 := by have := (right_inv hr).2.1; omega
 have hcc : c ≤ 15 := by have := (right_inv hr).2.2.1; omega
 obtain ⟨hrc, hrc0, hrc1⟩ := hc.rg (k := c) (by omega)
 obtain ⟨hrb, hrb0, hrb1⟩ := hc.rg (k := b) (by omega)
 obtain ⟨hX0, hX1⟩ := opX_bd hc 1 v hcc hn0 hn1
 have hot := or_top n hn0 hn1
 have HRC := hid hrc
 have HRB := hid hrb
 clear hrc hrb
 have HT := tabHid hT
 clear hT
 obtain ⟨hpc, hp0, hp1⟩ := hc.pcV
 have HC := hid hc
 have HPC := hid hpc
 clear hc hpc
 unfold ins
 go_enter Tryz.func38, Tryz.ntmps38
 go_upto_region 3 with (go_at_call 53; refine (right_any _ _ _ _ _ _ _ _ _ (HT.out _ (by go_grown))).mono ?_; rintro e w1 ⟨rfl, hb1⟩; obtain ⟨h0, h1, h2, hs, hB⟩ := three hb1; clear hb1)
 have hl := load_cpu h0 HC.out.size
 have hst := store_new0 (w := w1) (t := 50) HC.out.size HC.out.one
 have h21 : w1.cell? ⟨w.heap.size, 21, none⟩ = some (.int .u32 (rgV cs 21)) := (h0.cell 21).trans HPC.out
 have key := exec_head h0 h1 h2 hs hB (.int .u32 ((rgV cs 21 + 4) % 4294967296))
 have hA := ((h0.old (.cells cs 50)).cell 21).trans HPC.out
 have hF := (h0.old (.cells cs 50)).frozen 21
 have H0 := hid h0
 have H1 := hid h1
 have HK := hid key
 clear h0 h1 h2 hB key
 go_upto_region 7 with fail
 clear hl hst h21 hA hF H0 H1
 obtain ⟨k0, k1, k2, k3, kB⟩ := HK.out
 clear HK
 generalize (w1.alloc (.cells cs 50)).setCell ⟨w.heap.size, 21, none⟩ (.int .u32 ((rgV cs 21 + 4) % 4294967296)) = W at k0 k1 k2 k3 kB ⊢
 have kT := HT.out W kB
 clear HT
 have k0 : Blk W w.heap.size (c21 cs) 50 := k0
 have i0 : W.cell? ⟨w.heap.size + 1, 0, none⟩ = some (.int .i64 1) := k1.cell 0
 have i1 : W.cell? ⟨w.heap.size + 1, 1, none⟩ = some (.bool true) := k1.cell 1
 have i2 : W.cell? ⟨w.heap.size + 1, 2, none⟩ = some (.bool v) := k1.cell 2
 have i3 : W.cell? ⟨w.heap.size + 1, 3, none⟩ = some (.int .i64 a) := k1.cell 3
 have i4 : W.cell? ⟨w.heap.size + 1, 4, none⟩ = some (.int .i64 b) := k1.cell 4
 have i5 : W.cell? ⟨w.heap.size + 1, 5, none⟩ = some (.int .i64 0) := k1.cell 5
 have i6 : W.cell? ⟨w.heap.size + 1, 6, none⟩ = some (.int .i64 c) := k1.cell 6
 have i7 : W.cell? ⟨w.heap.size + 1, 7, none⟩ = some (.int .i64 n) := k1.cell 7
 have oc := (k3.cell c).trans HRC.out
 have ob := (k3.cell b).trans HRB.out
 have K_k0 := hid k0
 clear k0
 have K_k1 := hid k1
 clear k1
 have K_k2 := hid k2
 clear k2
 have K_k3 := hid k3
 clear k3
 have K_kB := hid kB
 clear kB
 have K_kT := hid kT
 clear kT
 have K_i1 := hid i1
 clear i1
 have K_i3 := hid i3
 clear i3
 have K_i5 := hid i5
 clear i5
 go_upto_if 32 with fail
 go_cut [12] from 33 to 41 (fun s12 wx => s12 = .int .u32 (opX cs 1 v c n) ∧ W = wx)
 case first =>
  cases v
  ·go_wp2_with fail
   go_meet
   exact ⟨rfl, rfl⟩
  ·go_wp2_with fail
   go_meet
   exact ⟨rfl, rfl⟩
 case rest =>
  obtain ⟨rfl, rfl⟩ := hcut
  clear oc hot i6 i7
  have i1 := K_i1.out
  have i5 := K_i5.out
  go_upto_region 63 with fail
  obtain ⟨⟨xa, ta⟩, ⟨x17, t17⟩, ⟨x18, t18⟩, tf, hl, hst, hres⟩ := tailf K_k0.out K_k2.out (by omega) (by simp [c21, HC.out.size]) rfl (c21_one HC.out.one) a ha
  have hw : Hid (0 ≤ ((opX cs 1 v c n) * 65536 % 4294967296) ∧ ((opX cs 1 v c n) * 65536 % 4294967296) < 4294967296) := by unfold Hid; omega
  have hB := hid K_kB.out
  have i3 : W.cell? ⟨w.heap.size + 1, 3, none⟩ = some (.int .i64 a) := K_k1.out.cell 3
  have K_hres := hid hres
  clear hres
  go_wp2_with fail
  have hres := K_hres.out
  refine bodyPost_ret (v := .tuple #[.agg (finR (c21 cs) a ((opX cs 1 v c n) * 65536 % 4294967296) (((opX cs 1 v c n) * 65536 % 4294967296) / 2147483648 != 0) (((opX cs 1 v c n) * 65536 % 4294967296) == 0)), .int .i64 0, .bool false]) ?_ rfl ⟨by rw [finR_fin _ _ _ hw.out.1 hw.out.2]; try rfl, belRow (bel_chain hB.out _ _ _ _) (by omega) _⟩
  simp [results, Tryz.results38, asAddr, hres]
set_option maxRecDepth 100000 in
theorem exec_op0h (cs : Array Value) (hc : CpuOk cs) (a b c : Nat) (n l : Int) (hr : rightB 0 true false a b 0 c n = true) (w : World) (hT : Tab w) :
 Calls Tryz.prog 38 #[.agg cs, ins 0 true false a b 0 c n, .int .u32 l] w fun e w' => e = .returned (.tuple #[.agg (fin (c21 cs) a (rgV cs 16)), .int .i64 0, .bool false]) ∧ Below w.heap.size w w' := by
 have hn := reck_n (by omega) hr
 have hn0 := hn.1
 have hn1 := hn.2
 clear hn
 have ha : a ≤ 15 := by have := (right_inv hr).1; omega
 have hbb : b ≤ 15 := by have := (right_inv hr).2.1; omega
 have hcc : c ≤ 15 := by have := (right_inv hr).2.2.1; omega
 obtain ⟨hrc, hrc0, hrc1⟩ := hc.rg (k := c) (by omega)
 obtain ⟨hrb, hrb0, hrb1⟩ := hc.rg (k := b) (by omega)
 obtain ⟨hX0, hX1⟩ := opX_bd hc 0 false hcc hn0 hn1
 have hot := or_top n hn0 hn1
 have HRC := hid hrc
 have HRB := hid hrb
 clear hrc hrb
 have HT := tabHid hT
 clear hT
 obtain ⟨hpc, hp0, hp1⟩ := hc.pcV
 have HC := hid hc
 have HPC := hid hpc
 clear hc hpc
 unfold ins
 go_enter Tryz.func38, Tryz.ntmps38
 go_upto_region 3 with (go_at_call 53; refine (right_any _ _ _ _ _ _ _ _ _ (HT.out _ (by go_grown))).mono ?_; rintro e w1 ⟨rfl, hb1⟩; obtain ⟨h0, h1, h2, hs, hB⟩ := three hb1; clear hb1)
 have hl := load_cpu h0 HC.out.size
 have hst := store_new0 (w := w1) (t := 50) HC.out.size HC.out.one
 have h21 : w1.cell? ⟨w.heap.size, 21, none⟩ = some (.int .u32 (rgV cs 21)) := (h0.cell 21).trans HPC.out
 have key := exec_head h0 h1 h2 hs hB (.int .u32 ((rgV cs 21 + 4) % 4294967296))
 have hA := ((h0.old (.cells cs 50)).cell 21).trans HPC.out
 have hF := (h0.old (.cells cs 50)).frozen 21
 have H0 := hid h0
 have H1 := hid h1
 have HK := hid key
 clear h0 h1 h2 hB key
 go_upto_region 7 with fail
 clear hl hst h21 hA hF H0 H1
 obtain ⟨k0, k1, k2, k3, kB⟩ := HK.out
 clear HK
 generalize (w1.alloc (.cells cs 50)).setCell ⟨w.heap.size, 21, none⟩ (.int .u32 ((rgV cs 21 + 4) % 4294967296)) = W at k0 k1 k2 k3 kB ⊢
 have kT := HT.out W kB
 clear HT
 have k0 : Blk W w.heap.size (c21 cs) 50 := k0
 have i0 : W.cell? ⟨w.heap.size + 1, 0, none⟩ = some (.int .i64 0) := k1.cell 0
 have i1 : W.cell? ⟨w.heap.size + 1, 1, none⟩ = some (.bool true) := k1.cell 1
 have i2 : W.cell? ⟨w.heap.size + 1, 2, none⟩ = some (.bool false) := k1.cell 2
 have i3 : W.cell? ⟨w.heap.size + 1, 3, none⟩ = some (.int .i64 a) := k1.cell 3
 have i4 : W.cell? ⟨w.heap.size + 1, 4, none⟩ = some (.int .i64 b) := k1.cell 4
 have i5 : W.cell? ⟨w.heap.size + 1, 5, none⟩ = some (.int .i64 0) := k1.cell 5
 have i6 : W.cell? ⟨w.heap.size + 1, 6, none⟩ = some (.int .i64 c) := k1.cell 6
 have i7 : W.cell? ⟨w.heap.size + 1, 7, none⟩ = some (.int .i64 n) := k1.cell 7
 have oc := (k3.cell c).trans HRC.out
 have ob := (k3.cell b).trans HRB.out
 have o16 := (k3.cell 16).trans HC.out.hV.1
 have K_k0 := hid k0
 clear k0
 have K_k1 := hid k1
 clear k1
 have K_k2 := hid k2
 clear k2
 have K_k3 := hid k3
 clear k3
 have K_kB := hid kB
 clear kB
 have K_kT := hid kT
 clear kT
 have K_i1 := hid i1
 clear i1
 have K_i3 := hid i3
 clear i3
 have K_i5 := hid i5
 clear i5
 go_upto_if 32 with fail
 go_cut [12] from 33 to 41 (fun s12 wx => s12 = .int .u32 (opX cs 0 false c n) ∧ W = wx)
 case first =>
  go_wp2_with fail
  go_meet
  exact ⟨rfl, rfl⟩
 case rest =>
  obtain ⟨rfl, rfl⟩ := hcut
  clear oc hot i6 i7
  have i1 := K_i1.out
  have i5 := K_i5.out
  go_upto_region 63 with fail
  obtain ⟨⟨xa, ta⟩, ⟨x17, t17⟩, ⟨x18, t18⟩, tf, hl, hst, hres⟩ := tailf K_k0.out K_k2.out (by omega) (by simp [c21, HC.out.size]) rfl (c21_one HC.out.one) a ha
  have hw : Hid (0 ≤ (rgV cs 16) ∧ (rgV cs 16) < 4294967296) := HC.out.hV.2
  have hB := hid K_kB.out
  have i3 : W.cell? ⟨w.heap.size + 1, 3, none⟩ = some (.int .i64 a) := K_k1.out.cell 3
  have K_hres := hid hres
  clear hres
  go_wp2_with fail
  have hres := K_hres.out
  refine bodyPost_ret (v := .tuple #[.agg (finR (c21 cs) a (rgV cs 16) ((rgV cs 16) / 2147483648 != 0) ((rgV cs 16) == 0)), .int .i64 0, .bool false]) ?_ rfl ⟨by rw [finR_fin _ _ _ hw.out.1 hw.out.2]; try rfl, belRow (bel_chain hB.out _ _ _ _) (by omega) _⟩
  simp [results, Tryz.results38, asAddr, hres]
set_option maxRecDepth 100000 in
theorem exec_op0f (cs : Array Value) (hc : CpuOk cs) (a b c : Nat) (n l : Int) (hr : rightB 0 true true a b 0 c n = true) (w : World) (hT : Tab w) :
 Calls Tryz.prog 38 #[.agg cs, ins 0 true true a b 0 c n, .int .u32 l] w fun e w' => e = .returned (.tuple #[.agg (fin (c21 cs) a (flagsV (flV cs 17) (flV cs 18) (flV cs 19) (flV cs 20))), .int .i64 0, .bool false]) ∧ Below w.heap.size w w' := by
 have hn := reck_n (by omega) hr
 have hn0 := hn.1
 have hn1 := hn.2
 clear hn
 have ha : a ≤ 15 := by have := (right_inv hr).1; omega
 have hbb : b ≤ 15 := by have := (right_inv hr).2.1; omega
 have hcc : c ≤ 15 := by have := (right_inv hr).2.2.1; omega
 obtain ⟨hrc, hrc0, hrc1⟩ := hc.rg (k := c) (by omega)
 obtain ⟨hrb, hrb0, hrb1⟩ := hc.rg (k := b) (by omega)
 obtain ⟨hX0, hX1⟩ := opX_bd hc 0 true hcc hn0 hn1
 have hot := or_top n hn0 hn1
 have HRC := hid hrc
 have HRB := hid hrb
 clear hrc hrb
 have HT := tabHid hT
 clear hT
 obtain ⟨hpc, hp0, hp1⟩ := hc.pcV
 have HC := hid hc
 have HPC := hid hpc
 clear hc hpc
 unfold ins
 go_enter Tryz.func38, Tryz.ntmps38
 go_upto_region 3 with (go_at_call 53; refine (right_any _ _ _ _ _ _ _ _ _ (HT.out _ (by go_grown))).mono ?_; rintro e w1 ⟨rfl, hb1⟩; obtain ⟨h0, h1, h2, hs, hB⟩ := three hb1; clear hb1)
 have hl := load_cpu h0 HC.out.size
 have hst := store_new0 (w := w1) (t := 50) HC.out.size HC.out.one
 have h21 : w1.cell? ⟨w.heap.size, 21, none⟩ = some (.int .u32 (rgV cs 21)) := (h0.cell 21).trans HPC.out
 have key := exec_head h0 h1 h2 hs hB (.int .u32 ((rgV cs 21 + 4) % 4294967296))
 have hA := ((h0.old (.cells cs 50)).cell 21).trans HPC.out
 have hF := (h0.old (.cells cs 50)).frozen 21
 have H0 := hid h0
 have H1 := hid h1
 have HK := hid key
 clear h0 h1 h2 hB key
 go_upto_region 7 with fail
 clear hl hst h21 hA hF H0 H1
 obtain ⟨k0, k1, k2, k3, kB⟩ := HK.out
 clear HK
 generalize (w1.alloc (.cells cs 50)).setCell ⟨w.heap.size, 21, none⟩ (.int .u32 ((rgV cs 21 + 4) % 4294967296)) = W at k0 k1 k2 k3 kB ⊢
 have kT := HT.out W kB
 clear HT
 have k0 : Blk W w.heap.size (c21 cs) 50 := k0
 have i0 : W.cell? ⟨w.heap.size + 1, 0, none⟩ = some (.int .i64 0) := k1.cell 0
 have i1 : W.cell? ⟨w.heap.size + 1, 1, none⟩ = some (.bool true) := k1.cell 1
 have i2 : W.cell? ⟨w.heap.size + 1, 2, none⟩ = some (.bool true) := k1.cell 2
 have i3 : W.cell? ⟨w.heap.size + 1, 3, none⟩ = some (.int .i64 a) := k1.cell 3
 have i4 : W.cell? ⟨w.heap.size + 1, 4, none⟩ = some (.int .i64 b) := k1.cell 4
 have i5 : W.cell? ⟨w.heap.size + 1, 5, none⟩ = some (.int .i64 0) := k1.cell 5
 have i6 : W.cell? ⟨w.heap.size + 1, 6, none⟩ = some (.int .i64 c) := k1.cell 6
 have i7 : W.cell? ⟨w.heap.size + 1, 7, none⟩ = some (.int .i64 n) := k1.cell 7
 have oc := (k3.cell c).trans HRC.out
 have ob := (k3.cell b).trans HRB.out
 have o17 := (k3.cell 17).trans HC.out.nV
 have o18 := (k3.cell 18).trans HC.out.zV
 have o19 := (k3.cell 19).trans HC.out.cV
 have o20 := (k3.cell 20).trans HC.out.vV
 have K_k0 := hid k0
 clear k0
 have K_k1 := hid k1
 clear k1
 have K_k2 := hid k2
 clear k2
 have K_k3 := hid k3
 clear k3
 have K_kB := hid kB
 clear kB
 have K_kT := hid kT
 clear kT
 have K_i1 := hid i1
 clear i1
 have K_i3 := hid i3
 clear i3
 have K_i5 := hid i5
 clear i5
 go_upto_if 32 with fail
 go_cut [12] from 33 to 41 (fun s12 wx => s12 = .int .u32 (opX cs 0 true c n) ∧ W = wx)
 case first =>
  go_wp2_with fail
  go_meet
  exact ⟨rfl, rfl⟩
 case rest =>
  obtain ⟨rfl, rfl⟩ := hcut
  clear oc hot i6 i7
  have i1 := K_i1.out
  have i5 := K_i5.out
  go_upto_region 22 with fail
  go_big_quiet ((go_at_call 57; exact Calls.quiet_of_same (flag_any _ _ (by omega) (by omega) _)))
  go_upto_region 63 with fail
  obtain ⟨⟨xa, ta⟩, ⟨x17, t17⟩, ⟨x18, t18⟩, tf, hl, hst, hres⟩ := tailf (Blk.drewN K_k0.out nq) (Blk.drewN K_k2.out nq) (by omega) (by simp [c21, HC.out.size]) rfl (c21_one HC.out.one) a ha
  have hw : Hid (0 ≤ (bits .or .u32 (bits .or .u32 (bits .or .u32 (flagV (flV cs 17) 31) (flagV (flV cs 18) 30)) (flagV (flV cs 19) 29)) (flagV (flV cs 20) 28)) ∧ (bits .or .u32 (bits .or .u32 (bits .or .u32 (flagV (flV cs 17) 31) (flagV (flV cs 18) 30)) (flagV (flV cs 19) 29)) (flagV (flV cs 20) 28)) < 4294967296) := u32_bits_bd .or _ _
  have hB := hid (belN K_kB.out nq)
  have i3 : (W.drewN nq).cell? ⟨w.heap.size + 1, 3, none⟩ = some (.int .i64 a) := (Blk.drewN K_k1.out nq).cell 3
  have K_hres := hid hres
  clear hres
  go_wp2_with fail
  have hres := K_hres.out
  refine bodyPost_ret (v := .tuple #[.agg (finR (c21 cs) a (bits .or .u32 (bits .or .u32 (bits .or .u32 (flagV (flV cs 17) 31) (flagV (flV cs 18) 30)) (flagV (flV cs 19) 29)) (flagV (flV cs 20) 28)) ((bits .or .u32 (bits .or .u32 (bits .or .u32 (flagV (flV cs 17) 31) (flagV (flV cs 18) 30)) (flagV (flV cs 19) 29)) (flagV (flV cs 20) 28)) / 2147483648 != 0) ((bits .or .u32 (bits .or .u32 (bits .or .u32 (flagV (flV cs 17) 31) (flagV (flV cs 18) 30)) (flagV (flV cs 19) 29)) (flagV (flV cs 20) 28)) == 0)), .int .i64 0, .bool false]) ?_ rfl ⟨by rw [finR_fin _ _ _ hw.out.1 hw.out.2]; try rfl, belRow (bel_chain hB.out _ _ _ _) (by omega) _⟩
  simp [results, Tryz.results38, asAddr, hres]
set_option maxRecDepth 100000 in
theorem exec_op15 (cs : Array Value) (hc : CpuOk cs) (a b c : Nat) (n l : Int) (hr : rightB 1 false false a b 15 c n = true) (w : World) (hT : Tab w) :
 Calls Tryz.prog 38 #[.agg cs, ins 1 false false a b 15 c n, .int .u32 l] w fun e w' => e = .returned (.tuple #[.agg cs, .int .i64 n, .bool true]) ∧ Below w.heap.size w w' := by
 have hn := reck_n (by omega) hr
 have hn0 := hn.1
 have hn1 := hn.2
 clear hn
 have ha : a ≤ 15 := by have := (right_inv hr).1; omega
 have hbb : b ≤ 15 := by have := (right_inv hr).2.1; omega
 have hcc : c ≤ 15 := by have := (right_inv hr).2.2.1; omega
 obtain ⟨hrc, hrc0, hrc1⟩ := hc.rg (k := c) (by omega)
 obtain ⟨hrb, hrb0, hrb1⟩ := hc.rg (k := b) (by omega)
 obtain ⟨hX0, hX1⟩ := opX_bd hc 1 false hcc hn0 hn1
 have hot := or_top n hn0 hn1
 have HRC := hid hrc
 have HRB := hid hrb
 clear hrc hrb
 have HT := tabHid hT
 clear hT
 obtain ⟨hpc, hp0, hp1⟩ := hc.pcV
 have HC := hid hc
 have HPC := hid hpc
 clear hc hpc
 unfold ins
 go_enter Tryz.func38, Tryz.ntmps38
 go_upto_region 3 with (go_at_call 53; refine (right_any _ _ _ _ _ _ _ _ _ (HT.out _ (by go_grown))).mono ?_; rintro e w1 ⟨rfl, hb1⟩; obtain ⟨h0, h1, h2, hs, hB⟩ := three hb1; clear hb1)
 have hl := load_cpu h0 HC.out.size
 have hst := store_new0 (w := w1) (t := 50) HC.out.size HC.out.one
 have h21 : w1.cell? ⟨w.heap.size, 21, none⟩ = some (.int .u32 (rgV cs 21)) := (h0.cell 21).trans HPC.out
 have key := exec_head h0 h1 h2 hs hB (.int .u32 ((rgV cs 21 + 4) % 4294967296))
 have hA := ((h0.old (.cells cs 50)).cell 21).trans HPC.out
 have hF := (h0.old (.cells cs 50)).frozen 21
 have H0 := hid h0
 have H1 := hid h1
 have HK := hid key
 clear h0 h1 h2 hB key
 go_upto_region 7 with fail
 clear hl hst h21 hA hF H0 H1
 obtain ⟨k0, k1, k2, k3, kB⟩ := HK.out
 clear HK
 generalize (w1.alloc (.cells cs 50)).setCell ⟨w.heap.size, 21, none⟩ (.int .u32 ((rgV cs 21 + 4) % 4294967296)) = W at k0 k1 k2 k3 kB ⊢
 have kT := HT.out W kB
 clear HT
 have k0 : Blk W w.heap.size (c21 cs) 50 := k0
 have i0 : W.cell? ⟨w.heap.size + 1, 0, none⟩ = some (.int .i64 1) := k1.cell 0
 have i1 : W.cell? ⟨w.heap.size + 1, 1, none⟩ = some (.bool false) := k1.cell 1
 have i2 : W.cell? ⟨w.heap.size + 1, 2, none⟩ = some (.bool false) := k1.cell 2
 have i3 : W.cell? ⟨w.heap.size + 1, 3, none⟩ = some (.int .i64 a) := k1.cell 3
 have i4 : W.cell? ⟨w.heap.size + 1, 4, none⟩ = some (.int .i64 b) := k1.cell 4
 have i5 : W.cell? ⟨w.heap.size + 1, 5, none⟩ = some (.int .i64 15) := k1.cell 5
 have i6 : W.cell? ⟨w.heap.size + 1, 6, none⟩ = some (.int .i64 c) := k1.cell 6
 have i7 : W.cell? ⟨w.heap.size + 1, 7, none⟩ = some (.int .i64 n) := k1.cell 7
 have oc := (k3.cell c).trans HRC.out
 have ob := (k3.cell b).trans HRB.out
 have K_k0 := hid k0
 clear k0
 have K_k1 := hid k1
 clear k1
 have K_k2 := hid k2
 clear k2
 have K_k3 := hid k3
 clear k3
 have K_kB := hid kB
 clear kB
 have K_kT := hid kT
 clear kT
 have K_i1 := hid i1
 clear i1
 have K_i3 := hid i3
 clear i3
 have K_i5 := hid i5
 clear i5
 go_upto_if 32 with fail
 go_cut [12] from 33 to 41 (fun s12 wx => s12 = .int .u32 (opX cs 1 false c n) ∧ W = wx)
 case first =>
  go_wp2_with fail
  go_meet
  exact ⟨rfl, rfl⟩
 case rest =>
  obtain ⟨rfl, rfl⟩ := hcut
  have K_i7 := hid i7
  clear oc hot i0 i2 i6 i7
  have i1 := K_i1.out
  have i5 := K_i5.out
  go_upto_region 48 with fail
  have i7 := K_i7.out
  have hl := load_cpu K_k3.out.drew HC.out.size
  have hst := store_cpu K_k2.out.drew rfl HC.out.size HC.out.one
  have hres := loadVar_cpu (Blk.setRow K_k2.out.drew cs) HC.out.size
  have K_hres := hid hres
  have hB := hid (belRow K_kB.out.drew (g := w.heap.size + 1 + 1) (by omega) cs)
  have i7' : (W.drew.setRow (w.heap.size + 1 + 1) cs).cell? ⟨w.heap.size + 1, 7, none⟩ = some (.int .i64 n) := (Blk.farRow K_k1.out.drew (by omega) cs).cell 7
  clear hres
  go_region
  go_wp2_with fail
  have hres := K_hres.out
  refine bodyPost_ret (v := .tuple #[.agg cs, .int .i64 n, .bool true]) ?_ rfl ⟨rfl, hB.out⟩
  simp [results, Tryz.results38, asAddr, hres]
end Go.Proofs.YtgcknekhimpfkaaGreatDoor
