/- Exec of an access to memory. -/
import Derived.Test.YtgcknekhimpfkaaGreatDoorQI
import Derived.Deep.DeepCutAuto
import Derived.Deep.CutRange
import Derived.RegionTactic
import Derived.ChangeAlike
namespace Go.Proofs.YtgcknekhimpfkaaGreatDoor
open Go Go.RowKit Go.Lib Go.Proofs.YtgcknekhimpfkaaGreatDoor.Pl
set_option maxHeartbeats 1000000
set_option linter.unusedVariables false
set_option linter.unusedSimpArgs false
attribute [local go_sem ↓] exec_load_cpu exec_store_cpu
def loadW (v : Bool) (l : Int) : Int := if v then l % 256 else l
theorem loadW_bd (v : Bool) (l : Int) (h0 : 0 ≤ l) (h1 : l < 4294967296) : 0 ≤ loadW v l ∧ loadW v l < 4294967296 := by unfold loadW; split <;> omega
theorem and255 (l : Int) (h0 : 0 ≤ l) (h1 : l < 4294967296) : bits .and .u32 l 255 = l % 256 := by
 have := and_low l 8 (by omega)
 rw [show l % 4294967296 = l from by omega] at this
 exact this
set_option maxRecDepth 100000 in
theorem exec_2u (cs : Array Value) (hc : CpuOk cs) (v : Bool) (a b : Nat) (n l : Int) (hr : rightB 2 true v a b 0 0 n = true) (w : World) (hT : Tab w) :
 Calls Tryz.prog 38 #[.agg cs, ins 2 true v a b 0 0 n, .int .u32 l] w fun e w' => e = .returned (.tuple #[.agg (c21 cs), .int .i64 0, .bool false]) ∧ Below w.heap.size w w' := by
 have HT := tabHid hT
 clear hT
 obtain ⟨hpc, hp0, hp1⟩ := hc.pcV
 have HC := hid hc
 have HPC := hid hpc
 clear hc hpc
 unfold ins
 go_enter Tryz.func38, Tryz.ntmps38
 go_upto_region 3 with (go_at_call 53; refine (right_any _ _ _ _ _ _ _ _ _ (HT.out _ (by go_grown))).mono ?_; rintro e w1 ⟨rfl, hb1⟩; obtain ⟨h0, h1, h2, hs, hB⟩ := three hb1; clear hb1)
 have hl := load_cpu h0 HC.out.size
 have hst := store_new0 (w := w1) (t := 50) HC.out.size HC.out.one
 have h21 : w1.cell? ⟨w.heap.size, 21, none⟩ = some (.int .u32 (rgV cs 21)) := (h0.cell 21).trans HPC.out
 have key := exec_head h0 h1 h2 hs hB (.int .u32 ((rgV cs 21 + 4) % 4294967296))
 have hA := ((h0.old (.cells cs 50)).cell 21).trans HPC.out
 have hF := (h0.old (.cells cs 50)).frozen 21
 have H0 := hid h0
 have H1 := hid h1
 have HK := hid key
 clear h0 h1 h2 hB key
 go_upto_region 7 with fail
 clear hl hst h21 hA hF H0 H1
 obtain ⟨k0, k1, k2, k3, kB⟩ := HK.out
 clear HK
 generalize (w1.alloc (.cells cs 50)).setCell ⟨w.heap.size, 21, none⟩ (.int .u32 ((rgV cs 21 + 4) % 4294967296)) = W at k0 k1 k2 k3 kB ⊢
 have kT := HT.out W kB
 clear HT
 have k0 : Blk W w.heap.size (c21 cs) 50 := k0
 have i0 : W.cell? ⟨w.heap.size + 1, 0, none⟩ = some (.int .i64 2) := k1.cell 0
 have i1 : W.cell? ⟨w.heap.size + 1, 1, none⟩ = some (.bool true) := k1.cell 1
 have i2 : W.cell? ⟨w.heap.size + 1, 2, none⟩ = some (.bool v) := k1.cell 2
 have i3 : W.cell? ⟨w.heap.size + 1, 3, none⟩ = some (.int .i64 a) := k1.cell 3
 have i4 : W.cell? ⟨w.heap.size + 1, 4, none⟩ = some (.int .i64 b) := k1.cell 4
 have i5 : W.cell? ⟨w.heap.size + 1, 5, none⟩ = some (.int .i64 0) := k1.cell 5
 have i6 : W.cell? ⟨w.heap.size + 1, 6, none⟩ = some (.int .i64 0) := k1.cell 6
 have i7 : W.cell? ⟨w.heap.size + 1, 7, none⟩ = some (.int .i64 n) := k1.cell 7
 have hl := load_cpu k0 (c21_size HC.out.size)
 have hst := store_cpu k2 rfl (c21_size HC.out.size) (c21_one HC.out.one)
 have hres := loadVar_cpu (k2.setRow (c21 cs)) (c21_size HC.out.size)
 have K_k0 := hid k0
 clear k0
 have K_k1 := hid k1
 clear k1
 have K_k2 := hid k2
 clear k2
 have K_k3 := hid k3
 clear k3
 have K_kB := hid kB
 clear kB
 have K_kT := hid kT
 clear kT
 have K_hres := hid hres
 clear hres
 go_wp2_with fail
 have hres := K_hres.out
 refine bodyPost_ret (v := .tuple #[.agg (c21 cs), .int .i64 0, .bool false]) ?_ rfl ⟨rfl, belRow K_kB.out (by omega) _⟩
 simp [results, Tryz.results38, asAddr, hres]
set_option maxRecDepth 100000 in
theorem exec_2t (cs : Array Value) (hc : CpuOk cs) (a b : Nat) (n l : Int) (h0 : 0 ≤ l) (h1 : l < 4294967296) (hr : rightB 2 false true a b 0 0 n = true) (w : World) (hT : Tab w) :
 Calls Tryz.prog 38 #[.agg cs, ins 2 false true a b 0 0 n, .int .u32 l] w fun e w' => e = .returned (.tuple #[.agg (fin (c21 cs) a (loadW true l)), .int .i64 0, .bool false]) ∧ Below w.heap.size w w' := by
 have ha : a ≤ 15 := by have := (right_inv hr).1; omega
 have HT := tabHid hT
 clear hT
 obtain ⟨hpc, hp0, hp1⟩ := hc.pcV
 have HC := hid hc
 have HPC := hid hpc
 clear hc hpc
 unfold ins
 go_enter Tryz.func38, Tryz.ntmps38
 go_upto_region 3 with (go_at_call 53; refine (right_any _ _ _ _ _ _ _ _ _ (HT.out _ (by go_grown))).mono ?_; rintro e w1 ⟨rfl, hb1⟩; obtain ⟨h0, h1, h2, hs, hB⟩ := three hb1; clear hb1)
 have hl := load_cpu h0 HC.out.size
 have hst := store_new0 (w := w1) (t := 50) HC.out.size HC.out.one
 have h21 : w1.cell? ⟨w.heap.size, 21, none⟩ = some (.int .u32 (rgV cs 21)) := (h0.cell 21).trans HPC.out
 have key := exec_head h0 h1 h2 hs hB (.int .u32 ((rgV cs 21 + 4) % 4294967296))
 have hA := ((h0.old (.cells cs 50)).cell 21).trans HPC.out
 have hF := (h0.old (.cells cs 50)).frozen 21
 have H0 := hid h0
 have H1 := hid h1
 have HK := hid key
 clear h0 h1 h2 hB key
 go_upto_region 7 with fail
 clear hl hst h21 hA hF H0 H1
 obtain ⟨k0, k1, k2, k3, kB⟩ := HK.out
 clear HK
 generalize (w1.alloc (.cells cs 50)).setCell ⟨w.heap.size, 21, none⟩ (.int .u32 ((rgV cs 21 + 4) % 4294967296)) = W at k0 k1 k2 k3 kB ⊢
 have kT := HT.out W kB
 clear HT
 have k0 : Blk W w.heap.size (c21 cs) 50 := k0
 have i0 : W.cell? ⟨w.heap.size + 1, 0, none⟩ = some (.int .i64 2) := k1.cell 0
 have i1 : W.cell? ⟨w.heap.size + 1, 1, none⟩ = some (.bool false) := k1.cell 1
 have i2 : W.cell? ⟨w.heap.size + 1, 2, none⟩ = some (.bool true) := k1.cell 2
 have i3 : W.cell? ⟨w.heap.size + 1, 3, none⟩ = some (.int .i64 a) := k1.cell 3
 have i4 : W.cell? ⟨w.heap.size + 1, 4, none⟩ = some (.int .i64 b) := k1.cell 4
 have i5 : W.cell? ⟨w.heap.size + 1, 5, none⟩ = some (.int .i64 0) := k1.cell 5
 have i6 : W.cell? ⟨w.heap.size + 1, 6, none⟩ = some (.int .i64 0) := k1.cell 6
 have i7 : W.cell? ⟨w.heap.size + 1, 7, none⟩ = some (.int .i64 n) := k1.cell 7
 obtain ⟨⟨xa, ta⟩, ⟨x17, t17⟩, ⟨x18, t18⟩, tf, hl, hst, hres⟩ := tailf k0 k2 (by omega) (c21_size HC.out.size) rfl (c21_one HC.out.one) a ha
 have K_k0 := hid k0
 clear k0
 have K_k1 := hid k1
 clear k1
 have K_k2 := hid k2
 clear k2
 have K_k3 := hid k3
 clear k3
 have K_kB := hid kB
 clear kB
 have K_kT := hid kT
 clear kT
 have K_hres := hid hres
 clear hres
 have h255 := and255 l h0 h1
 go_wp2_with fail
 have hres := K_hres.out
 refine bodyPost_ret (v := .tuple #[.agg (finR (c21 cs) a (l % 256) ((l % 256) / 2147483648 != 0) ((l % 256) == 0)), .int .i64 0, .bool false]) ?_ rfl ⟨by rw [finR_fin _ _ _ (by omega) (by omega)]; rfl, belRow (bel_chain K_kB.out _ _ _ _) (by omega) _⟩
 simp [results, Tryz.results38, asAddr, hres]
set_option maxRecDepth 100000 in
theorem exec_2f (cs : Array Value) (hc : CpuOk cs) (a b : Nat) (n l : Int) (h0 : 0 ≤ l) (h1 : l < 4294967296) (hr : rightB 2 false false a b 0 0 n = true) (w : World) (hT : Tab w) :
 Calls Tryz.prog 38 #[.agg cs, ins 2 false false a b 0 0 n, .int .u32 l] w fun e w' => e = .returned (.tuple #[.agg (fin (c21 cs) a (loadW false l)), .int .i64 0, .bool false]) ∧ Below w.heap.size w w' := by
 have ha : a ≤ 15 := by have := (right_inv hr).1; omega
 have HT := tabHid hT
 clear hT
 obtain ⟨hpc, hp0, hp1⟩ := hc.pcV
 have HC := hid hc
 have HPC := hid hpc
 clear hc hpc
 unfold ins
 go_enter Tryz.func38, Tryz.ntmps38
 go_upto_region 3 with (go_at_call 53; refine (right_any _ _ _ _ _ _ _ _ _ (HT.out _ (by go_grown))).mono ?_; rintro e w1 ⟨rfl, hb1⟩; obtain ⟨h0, h1, h2, hs, hB⟩ := three hb1; clear hb1)
 have hl := load_cpu h0 HC.out.size
 have hst := store_new0 (w := w1) (t := 50) HC.out.size HC.out.one
 have h21 : w1.cell? ⟨w.heap.size, 21, none⟩ = some (.int .u32 (rgV cs 21)) := (h0.cell 21).trans HPC.out
 have key := exec_head h0 h1 h2 hs hB (.int .u32 ((rgV cs 21 + 4) % 4294967296))
 have hA := ((h0.old (.cells cs 50)).cell 21).trans HPC.out
 have hF := (h0.old (.cells cs 50)).frozen 21
 have H0 := hid h0
 have H1 := hid h1
 have HK := hid key
 clear h0 h1 h2 hB key
 go_upto_region 7 with fail
 clear hl hst h21 hA hF H0 H1
 obtain ⟨k0, k1, k2, k3, kB⟩ := HK.out
 clear HK
 generalize (w1.alloc (.cells cs 50)).setCell ⟨w.heap.size, 21, none⟩ (.int .u32 ((rgV cs 21 + 4) % 4294967296)) = W at k0 k1 k2 k3 kB ⊢
 have kT := HT.out W kB
 clear HT
 have k0 : Blk W w.heap.size (c21 cs) 50 := k0
 have i0 : W.cell? ⟨w.heap.size + 1, 0, none⟩ = some (.int .i64 2) := k1.cell 0
 have i1 : W.cell? ⟨w.heap.size + 1, 1, none⟩ = some (.bool false) := k1.cell 1
 have i2 : W.cell? ⟨w.heap.size + 1, 2, none⟩ = some (.bool false) := k1.cell 2
 have i3 : W.cell? ⟨w.heap.size + 1, 3, none⟩ = some (.int .i64 a) := k1.cell 3
 have i4 : W.cell? ⟨w.heap.size + 1, 4, none⟩ = some (.int .i64 b) := k1.cell 4
 have i5 : W.cell? ⟨w.heap.size + 1, 5, none⟩ = some (.int .i64 0) := k1.cell 5
 have i6 : W.cell? ⟨w.heap.size + 1, 6, none⟩ = some (.int .i64 0) := k1.cell 6
 have i7 : W.cell? ⟨w.heap.size + 1, 7, none⟩ = some (.int .i64 n) := k1.cell 7
 obtain ⟨⟨xa, ta⟩, ⟨x17, t17⟩, ⟨x18, t18⟩, tf, hl, hst, hres⟩ := tailf k0 k2 (by omega) (c21_size HC.out.size) rfl (c21_one HC.out.one) a ha
 have K_k0 := hid k0
 clear k0
 have K_k1 := hid k1
 clear k1
 have K_k2 := hid k2
 clear k2
 have K_k3 := hid k3
 clear k3
 have K_kB := hid kB
 clear kB
 have K_kT := hid kT
 clear kT
 have K_hres := hid hres
 clear hres
 go_wp2_with fail
 have hres := K_hres.out
 refine bodyPost_ret (v := .tuple #[.agg (finR (c21 cs) a (l) ((l) / 2147483648 != 0) ((l) == 0)), .int .i64 0, .bool false]) ?_ rfl ⟨by rw [finR_fin _ _ _ (by omega) (by omega)]; rfl, belRow (bel_chain K_kB.out _ _ _ _) (by omega) _⟩
 simp [results, Tryz.results38, asAddr, hres]
end Go.Proofs.YtgcknekhimpfkaaGreatDoor
namespace Go.Proofs.YtgcknekhimpfkaaGreatDoor
open Go Go.RowKit Go.Lib Go.Proofs.YtgcknekhimpfkaaGreatDoor.Pl
set_option linter.unusedVariables false
set_option linter.unusedSimpArgs false
attribute [local go_sem ↓] exec_load_cpu exec_store_cpu
theorem blk_twice {w : World} {g i : Nat} {cs : Array Value} {x y : Value} {t : TypeId} (h : Blk w g ((cs.setIfInBounds i x).setIfInBounds i y) t) : Blk w g (cs.setIfInBounds i y) t := by rwa [Array.setIfInBounds_setIfInBounds] at h
def goTo (cs : Array Value) (n : Int) : Int := (rgV cs 21 + 4 + n % 4294967296 * 4) % 4294967296
set_option maxRecDepth 100000 in
theorem exec_3n (cs : Array Value) (hc : CpuOk cs) (u v : Bool) (a c : Nat) (n l : Int) (hH : holdsV (flV cs 17) (flV cs 18) (flV cs 19) (flV cs 20) a = false) (hr : rightB 3 u v a 0 0 c n = true) (w : World) (hT : Tab w) :
 Calls Tryz.prog 38 #[.agg cs, ins 3 u v a 0 0 c n, .int .u32 l] w fun e w' => e = .returned (.tuple #[.agg (c21 cs), .int .i64 0, .bool false]) ∧ Below w.heap.size w w' := by
 have hF : FlagsAre cs (flV cs 17) (flV cs 18) (flV cs 19) (flV cs 20) := ⟨hc.nV, hc.zV, hc.cV, hc.vV⟩
 have HF := hid hF
 clear hF
 have hcc : c ≤ 15 := by have := (right_inv hr).2.2.1; omega
 obtain ⟨hrc, hrc0, hrc1⟩ := hc.rg (k := c) (by omega)
 have HRC := hid hrc
 clear hrc
 have HT := tabHid hT
 clear hT
 obtain ⟨hpc, hp0, hp1⟩ := hc.pcV
 have HC := hid hc
 have HPC := hid hpc
 clear hc hpc
 unfold ins
 go_enter Tryz.func38, Tryz.ntmps38
 go_upto_region 3 with (go_at_call 53; refine (right_any _ _ _ _ _ _ _ _ _ (HT.out _ (by go_grown))).mono ?_; rintro e w1 ⟨rfl, hb1⟩; obtain ⟨h0, h1, h2, hs, hB⟩ := three hb1; clear hb1)
 have hl := load_cpu h0 HC.out.size
 have hst := store_new0 (w := w1) (t := 50) HC.out.size HC.out.one
 have h21 : w1.cell? ⟨w.heap.size, 21, none⟩ = some (.int .u32 (rgV cs 21)) := (h0.cell 21).trans HPC.out
 have key := exec_head h0 h1 h2 hs hB (.int .u32 ((rgV cs 21 + 4) % 4294967296))
 have hA := ((h0.old (.cells cs 50)).cell 21).trans HPC.out
 have hF := (h0.old (.cells cs 50)).frozen 21
 have H0 := hid h0
 have H1 := hid h1
 have HK := hid key
 clear h0 h1 h2 hB key
 go_upto_region 7 with fail
 clear hl hst h21 hA hF H0 H1
 obtain ⟨k0, k1, k2, k3, kB⟩ := HK.out
 clear HK
 generalize (w1.alloc (.cells cs 50)).setCell ⟨w.heap.size, 21, none⟩ (.int .u32 ((rgV cs 21 + 4) % 4294967296)) = W at k0 k1 k2 k3 kB ⊢
 have kT := HT.out W kB
 clear HT
 have k0 : Blk W w.heap.size (c21 cs) 50 := k0
 have i0 : W.cell? ⟨w.heap.size + 1, 0, none⟩ = some (.int .i64 3) := k1.cell 0
 have i1 : W.cell? ⟨w.heap.size + 1, 1, none⟩ = some (.bool u) := k1.cell 1
 have i2 : W.cell? ⟨w.heap.size + 1, 2, none⟩ = some (.bool v) := k1.cell 2
 have i3 : W.cell? ⟨w.heap.size + 1, 3, none⟩ = some (.int .i64 a) := k1.cell 3
 have i4 : W.cell? ⟨w.heap.size + 1, 4, none⟩ = some (.int .i64 0) := k1.cell 4
 have i5 : W.cell? ⟨w.heap.size + 1, 5, none⟩ = some (.int .i64 0) := k1.cell 5
 have i6 : W.cell? ⟨w.heap.size + 1, 6, none⟩ = some (.int .i64 c) := k1.cell 6
 have i7 : W.cell? ⟨w.heap.size + 1, 7, none⟩ = some (.int .i64 n) := k1.cell 7
 have hlo := load_cpu k3 HC.out.size
 have K_k0 := hid k0
 clear k0
 have K_k1 := hid k1
 clear k1
 have K_k2 := hid k2
 clear k2
 have K_k3 := hid k3
 clear k3
 have K_kB := hid kB
 clear kB
 have K_kT := hid kT
 clear kT
 have K_i1 := hid i1
 clear i1
 have K_i2 := hid i2
 clear i2
 have K_i6 := hid i6
 clear i6
 have K_i7 := hid i7
 clear i7
 go_upto_region 62 with (go_at_call 56; refine (holds_any cs _ _ _ _ HF.out _ _).mono ?_; rintro e w2 ⟨rfl, hb2⟩; clear hlo i0 i3 i4 i5; have j1 : w2.cell? ⟨w.heap.size + 1, 1, none⟩ = some (.bool u) := (K_k1.out.step hb2).cell 1; have j2 : w2.cell? ⟨w.heap.size + 1, 2, none⟩ = some (.bool v) := (K_k1.out.step hb2).cell 2; have j6 : w2.cell? ⟨w.heap.size + 1, 6, none⟩ = some (.int .i64 c) := (K_k1.out.step hb2).cell 6; have j7 : w2.cell? ⟨w.heap.size + 1, 7, none⟩ = some (.int .i64 n) := (K_k1.out.step hb2).cell 7; obtain ⟨x21, q21⟩ := at_some (n := 22) (k := 21) (c21_size HC.out.size) (by omega); have c21' := ((K_k0.out.step hb2).cell 21).trans q21; obtain ⟨x15, q15⟩ := at_some (n := 22) (k := 15) (c21_size HC.out.size) (by omega); have c15' := ((K_k0.out.step hb2).cell 15).trans q15; have cf := fun o => (K_k0.out.step hb2).frozen o; have cr := ((K_k3.out.step hb2).cell c).trans HRC.out; have Hb2 := hid hb2; clear q21 q15 hb2)
 have HLE : w.heap.size ≤ W.heap.size := K_kB.out.size
 have hl := load_cpu (K_k0.out.step Hb2.out) (by simp [c21, HC.out.size])
 have hst := store_cpu (K_k2.out.step Hb2.out) rfl (cs := (c21 cs)) (by simp [c21, HC.out.size]) (c21_one HC.out.one)
 have hres := loadVar_cpu (Blk.setRow (K_k2.out.step Hb2.out) (c21 cs)) (by simp [c21, HC.out.size])
 have HB := hid (belRow (K_kB.out.trans (Hb2.out.mono HLE)) (g := w.heap.size + 1 + 1) (by omega) (c21 cs))
 have K_hres := hid hres
 clear hres
 go_wp2_with fail
 have hres := K_hres.out
 refine bodyPost_ret (v := .tuple #[.agg (c21 cs), .int .i64 0, .bool false]) ?_ rfl ⟨rfl, HB.out⟩
 simp [results, Tryz.results38, asAddr, hres]
set_option maxRecDepth 100000 in
theorem exec_3ytt (cs : Array Value) (hc : CpuOk cs) (a c : Nat) (n l : Int) (hH : holdsV (flV cs 17) (flV cs 18) (flV cs 19) (flV cs 20) a = true) (hr : rightB 3 true true a 0 0 c n = true) (w : World) (hT : Tab w) :
 Calls Tryz.prog 38 #[.agg cs, ins 3 true true a 0 0 c n, .int .u32 l] w fun e w' => e = .returned (.tuple #[.agg (((c21 cs).setIfInBounds 21 (.int .u32 (goTo cs n))).setIfInBounds 15 (.int .u32 (nextV cs))), .int .i64 0, .bool false]) ∧ Below w.heap.size w w' := by
 have hF : FlagsAre cs (flV cs 17) (flV cs 18) (flV cs 19) (flV cs 20) := ⟨hc.nV, hc.zV, hc.cV, hc.vV⟩
 have HF := hid hF
 clear hF
 have hcc : c ≤ 15 := by have := (right_inv hr).2.2.1; omega
 obtain ⟨hrc, hrc0, hrc1⟩ := hc.rg (k := c) (by omega)
 have HRC := hid hrc
 clear hrc
 have HT := tabHid hT
 clear hT
 obtain ⟨hpc, hp0, hp1⟩ := hc.pcV
 have HC := hid hc
 have HPC := hid hpc
 clear hc hpc
 unfold ins
 go_enter Tryz.func38, Tryz.ntmps38
 go_upto_region 3 with (go_at_call 53; refine (right_any _ _ _ _ _ _ _ _ _ (HT.out _ (by go_grown))).mono ?_; rintro e w1 ⟨rfl, hb1⟩; obtain ⟨h0, h1, h2, hs, hB⟩ := three hb1; clear hb1)
 have hl := load_cpu h0 HC.out.size
 have hst := store_new0 (w := w1) (t := 50) HC.out.size HC.out.one
 have h21 : w1.cell? ⟨w.heap.size, 21, none⟩ = some (.int .u32 (rgV cs 21)) := (h0.cell 21).trans HPC.out
 have key := exec_head h0 h1 h2 hs hB (.int .u32 ((rgV cs 21 + 4) % 4294967296))
 have hA := ((h0.old (.cells cs 50)).cell 21).trans HPC.out
 have hF := (h0.old (.cells cs 50)).frozen 21
 have H0 := hid h0
 have H1 := hid h1
 have HK := hid key
 clear h0 h1 h2 hB key
 go_upto_region 7 with fail
 clear hl hst h21 hA hF H0 H1
 obtain ⟨k0, k1, k2, k3, kB⟩ := HK.out
 clear HK
 generalize (w1.alloc (.cells cs 50)).setCell ⟨w.heap.size, 21, none⟩ (.int .u32 ((rgV cs 21 + 4) % 4294967296)) = W at k0 k1 k2 k3 kB ⊢
 have kT := HT.out W kB
 clear HT
 have k0 : Blk W w.heap.size (c21 cs) 50 := k0
 have i0 : W.cell? ⟨w.heap.size + 1, 0, none⟩ = some (.int .i64 3) := k1.cell 0
 have i1 : W.cell? ⟨w.heap.size + 1, 1, none⟩ = some (.bool true) := k1.cell 1
 have i2 : W.cell? ⟨w.heap.size + 1, 2, none⟩ = some (.bool true) := k1.cell 2
 have i3 : W.cell? ⟨w.heap.size + 1, 3, none⟩ = some (.int .i64 a) := k1.cell 3
 have i4 : W.cell? ⟨w.heap.size + 1, 4, none⟩ = some (.int .i64 0) := k1.cell 4
 have i5 : W.cell? ⟨w.heap.size + 1, 5, none⟩ = some (.int .i64 0) := k1.cell 5
 have i6 : W.cell? ⟨w.heap.size + 1, 6, none⟩ = some (.int .i64 c) := k1.cell 6
 have i7 : W.cell? ⟨w.heap.size + 1, 7, none⟩ = some (.int .i64 n) := k1.cell 7
 have hlo := load_cpu k3 HC.out.size
 have K_k0 := hid k0
 clear k0
 have K_k1 := hid k1
 clear k1
 have K_k2 := hid k2
 clear k2
 have K_k3 := hid k3
 clear k3
 have K_kB := hid kB
 clear kB
 have K_kT := hid kT
 clear kT
 have K_i1 := hid i1
 clear i1
 have K_i2 := hid i2
 clear i2
 have K_i6 := hid i6
 clear i6
 have K_i7 := hid i7
 clear i7
 go_upto_region 62 with (go_at_call 56; refine (holds_any cs _ _ _ _ HF.out _ _).mono ?_; rintro e w2 ⟨rfl, hb2⟩; clear hlo i0 i3 i4 i5; have j1 : w2.cell? ⟨w.heap.size + 1, 1, none⟩ = some (.bool true) := (K_k1.out.step hb2).cell 1; have j2 : w2.cell? ⟨w.heap.size + 1, 2, none⟩ = some (.bool true) := (K_k1.out.step hb2).cell 2; have j6 : w2.cell? ⟨w.heap.size + 1, 6, none⟩ = some (.int .i64 c) := (K_k1.out.step hb2).cell 6; have j7 : w2.cell? ⟨w.heap.size + 1, 7, none⟩ = some (.int .i64 n) := (K_k1.out.step hb2).cell 7; obtain ⟨x21, q21⟩ := at_some (n := 22) (k := 21) (c21_size HC.out.size) (by omega); have c21' := ((K_k0.out.step hb2).cell 21).trans q21; obtain ⟨x15, q15⟩ := at_some (n := 22) (k := 15) (c21_size HC.out.size) (by omega); have c15' := ((K_k0.out.step hb2).cell 15).trans q15; have cf := fun o => (K_k0.out.step hb2).frozen o; have cr := ((K_k3.out.step hb2).cell c).trans HRC.out; have Hb2 := hid hb2; clear q21 q15 hb2)
 have HLE : w.heap.size ≤ W.heap.size := K_kB.out.size
 have hl := load_cpu ((blk_twice (((K_k0.out.step Hb2.out).set 21 (.int .u32 (rgV cs c))).set 21 (.int .u32 ((rgV cs 21 + 4 + n % 4294967296 * 4) % 4294967296)))).set 15 (.int .u32 ((rgV cs 21 + 4) % 4294967296))) (by simp [c21, HC.out.size])
 have hst := store_cpu ((((K_k2.out.step Hb2.out).far (by simp; omega) (p := ⟨w.heap.size, 21, none⟩) (.int .u32 (rgV cs c))).far (by simp; omega) (p := ⟨w.heap.size, 21, none⟩) (.int .u32 ((rgV cs 21 + 4 + n % 4294967296 * 4) % 4294967296))).far (by simp; omega) (p := ⟨w.heap.size, 15, none⟩) (.int .u32 ((rgV cs 21 + 4) % 4294967296))) rfl (cs := (((c21 cs).setIfInBounds 21 (.int .u32 ((rgV cs 21 + 4 + n % 4294967296 * 4) % 4294967296))).setIfInBounds 15 (.int .u32 ((rgV cs 21 + 4) % 4294967296)))) (by simp [c21, HC.out.size]) (OneRow.set (OneRow.set (c21_one HC.out.one) 21 (v := .int .u32 ((rgV cs 21 + 4 + n % 4294967296 * 4) % 4294967296)) rfl) 15 (v := .int .u32 ((rgV cs 21 + 4) % 4294967296)) rfl)
 have hres := loadVar_cpu (Blk.setRow ((((K_k2.out.step Hb2.out).far (by simp; omega) (p := ⟨w.heap.size, 21, none⟩) (.int .u32 (rgV cs c))).far (by simp; omega) (p := ⟨w.heap.size, 21, none⟩) (.int .u32 ((rgV cs 21 + 4 + n % 4294967296 * 4) % 4294967296))).far (by simp; omega) (p := ⟨w.heap.size, 15, none⟩) (.int .u32 ((rgV cs 21 + 4) % 4294967296))) (((c21 cs).setIfInBounds 21 (.int .u32 ((rgV cs 21 + 4 + n % 4294967296 * 4) % 4294967296))).setIfInBounds 15 (.int .u32 ((rgV cs 21 + 4) % 4294967296)))) (by simp [c21, HC.out.size])
 have HB := hid (belRow ((((K_kB.out.trans (Hb2.out.mono HLE)).setCell (p := ⟨w.heap.size, 21, none⟩) (Nat.le_refl _) (.int .u32 (rgV cs c))).setCell (p := ⟨w.heap.size, 21, none⟩) (Nat.le_refl _) (.int .u32 ((rgV cs 21 + 4 + n % 4294967296 * 4) % 4294967296))).setCell (p := ⟨w.heap.size, 15, none⟩) (Nat.le_refl _) (.int .u32 ((rgV cs 21 + 4) % 4294967296))) (g := w.heap.size + 1 + 1) (by omega) (((c21 cs).setIfInBounds 21 (.int .u32 ((rgV cs 21 + 4 + n % 4294967296 * 4) % 4294967296))).setIfInBounds 15 (.int .u32 ((rgV cs 21 + 4) % 4294967296))))
 have K_hres := hid hres
 clear hres
 go_wp2_with fail
 have hres := K_hres.out
 refine bodyPost_ret (v := .tuple #[.agg (((c21 cs).setIfInBounds 21 (.int .u32 ((rgV cs 21 + 4 + n % 4294967296 * 4) % 4294967296))).setIfInBounds 15 (.int .u32 ((rgV cs 21 + 4) % 4294967296))), .int .i64 0, .bool false]) ?_ rfl ⟨rfl, HB.out⟩
 simp [results, Tryz.results38, asAddr, hres]
set_option maxRecDepth 100000 in
theorem exec_3ytf (cs : Array Value) (hc : CpuOk cs) (a c : Nat) (n l : Int) (hH : holdsV (flV cs 17) (flV cs 18) (flV cs 19) (flV cs 20) a = true) (hr : rightB 3 true false a 0 0 c n = true) (w : World) (hT : Tab w) :
 Calls Tryz.prog 38 #[.agg cs, ins 3 true false a 0 0 c n, .int .u32 l] w fun e w' => e = .returned (.tuple #[.agg ((c21 cs).setIfInBounds 21 (.int .u32 (goTo cs n))), .int .i64 0, .bool false]) ∧ Below w.heap.size w w' := by
 have hF : FlagsAre cs (flV cs 17) (flV cs 18) (flV cs 19) (flV cs 20) := ⟨hc.nV, hc.zV, hc.cV, hc.vV⟩
 have HF := hid hF
 clear hF
 have hcc : c ≤ 15 := by have := (right_inv hr).2.2.1; omega
 obtain ⟨hrc, hrc0, hrc1⟩ := hc.rg (k := c) (by omega)
 have HRC := hid hrc
 clear hrc
 have HT := tabHid hT
 clear hT
 obtain ⟨hpc, hp0, hp1⟩ := hc.pcV
 have HC := hid hc
 have HPC := hid hpc
 clear hc hpc
 unfold ins
 go_enter Tryz.func38, Tryz.ntmps38
 go_upto_region 3 with (go_at_call 53; refine (right_any _ _ _ _ _ _ _ _ _ (HT.out _ (by go_grown))).mono ?_; rintro e w1 ⟨rfl, hb1⟩; obtain ⟨h0, h1, h2, hs, hB⟩ := three hb1; clear hb1)
 have hl := load_cpu h0 HC.out.size
 have hst := store_new0 (w := w1) (t := 50) HC.out.size HC.out.one
 have h21 : w1.cell? ⟨w.heap.size, 21, none⟩ = some (.int .u32 (rgV cs 21)) := (h0.cell 21).trans HPC.out
 have key := exec_head h0 h1 h2 hs hB (.int .u32 ((rgV cs 21 + 4) % 4294967296))
 have hA := ((h0.old (.cells cs 50)).cell 21).trans HPC.out
 have hF := (h0.old (.cells cs 50)).frozen 21
 have H0 := hid h0
 have H1 := hid h1
 have HK := hid key
 clear h0 h1 h2 hB key
 go_upto_region 7 with fail
 clear hl hst h21 hA hF H0 H1
 obtain ⟨k0, k1, k2, k3, kB⟩ := HK.out
 clear HK
 generalize (w1.alloc (.cells cs 50)).setCell ⟨w.heap.size, 21, none⟩ (.int .u32 ((rgV cs 21 + 4) % 4294967296)) = W at k0 k1 k2 k3 kB ⊢
 have kT := HT.out W kB
 clear HT
 have k0 : Blk W w.heap.size (c21 cs) 50 := k0
 have i0 : W.cell? ⟨w.heap.size + 1, 0, none⟩ = some (.int .i64 3) := k1.cell 0
 have i1 : W.cell? ⟨w.heap.size + 1, 1, none⟩ = some (.bool true) := k1.cell 1
 have i2 : W.cell? ⟨w.heap.size + 1, 2, none⟩ = some (.bool false) := k1.cell 2
 have i3 : W.cell? ⟨w.heap.size + 1, 3, none⟩ = some (.int .i64 a) := k1.cell 3
 have i4 : W.cell? ⟨w.heap.size + 1, 4, none⟩ = some (.int .i64 0) := k1.cell 4
 have i5 : W.cell? ⟨w.heap.size + 1, 5, none⟩ = some (.int .i64 0) := k1.cell 5
 have i6 : W.cell? ⟨w.heap.size + 1, 6, none⟩ = some (.int .i64 c) := k1.cell 6
 have i7 : W.cell? ⟨w.heap.size + 1, 7, none⟩ = some (.int .i64 n) := k1.cell 7
 have hlo := load_cpu k3 HC.out.size
 have K_k0 := hid k0
 clear k0
 have K_k1 := hid k1
 clear k1
 have K_k2 := hid k2
 clear k2
 have K_k3 := hid k3
 clear k3
 have K_kB := hid kB
 clear kB
 have K_kT := hid kT
 clear kT
 have K_i1 := hid i1
 clear i1
 have K_i2 := hid i2
 clear i2
 have K_i6 := hid i6
 clear i6
 have K_i7 := hid i7
 clear i7
 go_upto_region 62 with (go_at_call 56; refine (holds_any cs _ _ _ _ HF.out _ _).mono ?_; rintro e w2 ⟨rfl, hb2⟩; clear hlo i0 i3 i4 i5; have j1 : w2.cell? ⟨w.heap.size + 1, 1, none⟩ = some (.bool true) := (K_k1.out.step hb2).cell 1; have j2 : w2.cell? ⟨w.heap.size + 1, 2, none⟩ = some (.bool false) := (K_k1.out.step hb2).cell 2; have j6 : w2.cell? ⟨w.heap.size + 1, 6, none⟩ = some (.int .i64 c) := (K_k1.out.step hb2).cell 6; have j7 : w2.cell? ⟨w.heap.size + 1, 7, none⟩ = some (.int .i64 n) := (K_k1.out.step hb2).cell 7; obtain ⟨x21, q21⟩ := at_some (n := 22) (k := 21) (c21_size HC.out.size) (by omega); have c21' := ((K_k0.out.step hb2).cell 21).trans q21; obtain ⟨x15, q15⟩ := at_some (n := 22) (k := 15) (c21_size HC.out.size) (by omega); have c15' := ((K_k0.out.step hb2).cell 15).trans q15; have cf := fun o => (K_k0.out.step hb2).frozen o; have cr := ((K_k3.out.step hb2).cell c).trans HRC.out; have Hb2 := hid hb2; clear q21 q15 hb2)
 have HLE : w.heap.size ≤ W.heap.size := K_kB.out.size
 have hl := load_cpu (blk_twice (((K_k0.out.step Hb2.out).set 21 (.int .u32 (rgV cs c))).set 21 (.int .u32 ((rgV cs 21 + 4 + n % 4294967296 * 4) % 4294967296)))) (by simp [c21, HC.out.size])
 have hst := store_cpu (((K_k2.out.step Hb2.out).far (by simp; omega) (p := ⟨w.heap.size, 21, none⟩) (.int .u32 (rgV cs c))).far (by simp; omega) (p := ⟨w.heap.size, 21, none⟩) (.int .u32 ((rgV cs 21 + 4 + n % 4294967296 * 4) % 4294967296))) rfl (cs := ((c21 cs).setIfInBounds 21 (.int .u32 ((rgV cs 21 + 4 + n % 4294967296 * 4) % 4294967296)))) (by simp [c21, HC.out.size]) (OneRow.set (c21_one HC.out.one) 21 (v := .int .u32 ((rgV cs 21 + 4 + n % 4294967296 * 4) % 4294967296)) rfl)
 have hres := loadVar_cpu (Blk.setRow (((K_k2.out.step Hb2.out).far (by simp; omega) (p := ⟨w.heap.size, 21, none⟩) (.int .u32 (rgV cs c))).far (by simp; omega) (p := ⟨w.heap.size, 21, none⟩) (.int .u32 ((rgV cs 21 + 4 + n % 4294967296 * 4) % 4294967296))) ((c21 cs).setIfInBounds 21 (.int .u32 ((rgV cs 21 + 4 + n % 4294967296 * 4) % 4294967296)))) (by simp [c21, HC.out.size])
 have HB := hid (belRow (((K_kB.out.trans (Hb2.out.mono HLE)).setCell (p := ⟨w.heap.size, 21, none⟩) (Nat.le_refl _) (.int .u32 (rgV cs c))).setCell (p := ⟨w.heap.size, 21, none⟩) (Nat.le_refl _) (.int .u32 ((rgV cs 21 + 4 + n % 4294967296 * 4) % 4294967296))) (g := w.heap.size + 1 + 1) (by omega) ((c21 cs).setIfInBounds 21 (.int .u32 ((rgV cs 21 + 4 + n % 4294967296 * 4) % 4294967296))))
 have K_hres := hid hres
 clear hres
 go_wp2_with fail
 have hres := K_hres.out
 refine bodyPost_ret (v := .tuple #[.agg ((c21 cs).setIfInBounds 21 (.int .u32 ((rgV cs 21 + 4 + n % 4294967296 * 4) % 4294967296))), .int .i64 0, .bool false]) ?_ rfl ⟨rfl, HB.out⟩
 simp [results, Tryz.results38, asAddr, hres]
set_option maxRecDepth 100000 in
theorem exec_3yft (cs : Array Value) (hc : CpuOk cs) (a c : Nat) (n l : Int) (hH : holdsV (flV cs 17) (flV cs 18) (flV cs 19) (flV cs 20) a = true) (hr : rightB 3 false true a 0 0 c n = true) (w : World) (hT : Tab w) :
 Calls Tryz.prog 38 #[.agg cs, ins 3 false true a 0 0 c n, .int .u32 l] w fun e w' => e = .returned (.tuple #[.agg (((c21 cs).setIfInBounds 21 (.int .u32 (rgV cs c))).setIfInBounds 15 (.int .u32 (nextV cs))), .int .i64 0, .bool false]) ∧ Below w.heap.size w w' := by
 have hF : FlagsAre cs (flV cs 17) (flV cs 18) (flV cs 19) (flV cs 20) := ⟨hc.nV, hc.zV, hc.cV, hc.vV⟩
 have HF := hid hF
 clear hF
 have hcc : c ≤ 15 := by have := (right_inv hr).2.2.1; omega
 obtain ⟨hrc, hrc0, hrc1⟩ := hc.rg (k := c) (by omega)
 have HRC := hid hrc
 clear hrc
 have HT := tabHid hT
 clear hT
 obtain ⟨hpc, hp0, hp1⟩ := hc.pcV
 have HC := hid hc
 have HPC := hid hpc
 clear hc hpc
 unfold ins
 go_enter Tryz.func38, Tryz.ntmps38
 go_upto_region 3 with (go_at_call 53; refine (right_any _ _ _ _ _ _ _ _ _ (HT.out _ (by go_grown))).mono ?_; rintro e w1 ⟨rfl, hb1⟩; obtain ⟨h0, h1, h2, hs, hB⟩ := three hb1; clear hb1)
 have hl := load_cpu h0 HC.out.size
 have hst := store_new0 (w := w1) (t := 50) HC.out.size HC.out.one
 have h21 : w1.cell? ⟨w.heap.size, 21, none⟩ = some (.int .u32 (rgV cs 21)) := (h0.cell 21).trans HPC.out
 have key := exec_head h0 h1 h2 hs hB (.int .u32 ((rgV cs 21 + 4) % 4294967296))
 have hA := ((h0.old (.cells cs 50)).cell 21).trans HPC.out
 have hF := (h0.old (.cells cs 50)).frozen 21
 have H0 := hid h0
 have H1 := hid h1
 have HK := hid key
 clear h0 h1 h2 hB key
 go_upto_region 7 with fail
 clear hl hst h21 hA hF H0 H1
 obtain ⟨k0, k1, k2, k3, kB⟩ := HK.out
 clear HK
 generalize (w1.alloc (.cells cs 50)).setCell ⟨w.heap.size, 21, none⟩ (.int .u32 ((rgV cs 21 + 4) % 4294967296)) = W at k0 k1 k2 k3 kB ⊢
 have kT := HT.out W kB
 clear HT
 have k0 : Blk W w.heap.size (c21 cs) 50 := k0
 have i0 : W.cell? ⟨w.heap.size + 1, 0, none⟩ = some (.int .i64 3) := k1.cell 0
 have i1 : W.cell? ⟨w.heap.size + 1, 1, none⟩ = some (.bool false) := k1.cell 1
 have i2 : W.cell? ⟨w.heap.size + 1, 2, none⟩ = some (.bool true) := k1.cell 2
 have i3 : W.cell? ⟨w.heap.size + 1, 3, none⟩ = some (.int .i64 a) := k1.cell 3
 have i4 : W.cell? ⟨w.heap.size + 1, 4, none⟩ = some (.int .i64 0) := k1.cell 4
 have i5 : W.cell? ⟨w.heap.size + 1, 5, none⟩ = some (.int .i64 0) := k1.cell 5
 have i6 : W.cell? ⟨w.heap.size + 1, 6, none⟩ = some (.int .i64 c) := k1.cell 6
 have i7 : W.cell? ⟨w.heap.size + 1, 7, none⟩ = some (.int .i64 n) := k1.cell 7
 have hlo := load_cpu k3 HC.out.size
 have K_k0 := hid k0
 clear k0
 have K_k1 := hid k1
 clear k1
 have K_k2 := hid k2
 clear k2
 have K_k3 := hid k3
 clear k3
 have K_kB := hid kB
 clear kB
 have K_kT := hid kT
 clear kT
 have K_i1 := hid i1
 clear i1
 have K_i2 := hid i2
 clear i2
 have K_i6 := hid i6
 clear i6
 have K_i7 := hid i7
 clear i7
 go_upto_region 62 with (go_at_call 56; refine (holds_any cs _ _ _ _ HF.out _ _).mono ?_; rintro e w2 ⟨rfl, hb2⟩; clear hlo i0 i3 i4 i5; have j1 : w2.cell? ⟨w.heap.size + 1, 1, none⟩ = some (.bool false) := (K_k1.out.step hb2).cell 1; have j2 : w2.cell? ⟨w.heap.size + 1, 2, none⟩ = some (.bool true) := (K_k1.out.step hb2).cell 2; have j6 : w2.cell? ⟨w.heap.size + 1, 6, none⟩ = some (.int .i64 c) := (K_k1.out.step hb2).cell 6; have j7 : w2.cell? ⟨w.heap.size + 1, 7, none⟩ = some (.int .i64 n) := (K_k1.out.step hb2).cell 7; obtain ⟨x21, q21⟩ := at_some (n := 22) (k := 21) (c21_size HC.out.size) (by omega); have c21' := ((K_k0.out.step hb2).cell 21).trans q21; obtain ⟨x15, q15⟩ := at_some (n := 22) (k := 15) (c21_size HC.out.size) (by omega); have c15' := ((K_k0.out.step hb2).cell 15).trans q15; have cf := fun o => (K_k0.out.step hb2).frozen o; have cr := ((K_k3.out.step hb2).cell c).trans HRC.out; have Hb2 := hid hb2; clear q21 q15 hb2)
 have HLE : w.heap.size ≤ W.heap.size := K_kB.out.size
 have hl := load_cpu (((K_k0.out.step Hb2.out).set 21 (.int .u32 (rgV cs c))).set 15 (.int .u32 ((rgV cs 21 + 4) % 4294967296))) (by simp [c21, HC.out.size])
 have hst := store_cpu (((K_k2.out.step Hb2.out).far (by simp; omega) (p := ⟨w.heap.size, 21, none⟩) (.int .u32 (rgV cs c))).far (by simp; omega) (p := ⟨w.heap.size, 15, none⟩) (.int .u32 ((rgV cs 21 + 4) % 4294967296))) rfl (cs := (((c21 cs).setIfInBounds 21 (.int .u32 (rgV cs c))).setIfInBounds 15 (.int .u32 ((rgV cs 21 + 4) % 4294967296)))) (by simp [c21, HC.out.size]) (OneRow.set (OneRow.set (c21_one HC.out.one) 21 (v := .int .u32 (rgV cs c)) rfl) 15 (v := .int .u32 ((rgV cs 21 + 4) % 4294967296)) rfl)
 have hres := loadVar_cpu (Blk.setRow (((K_k2.out.step Hb2.out).far (by simp; omega) (p := ⟨w.heap.size, 21, none⟩) (.int .u32 (rgV cs c))).far (by simp; omega) (p := ⟨w.heap.size, 15, none⟩) (.int .u32 ((rgV cs 21 + 4) % 4294967296))) (((c21 cs).setIfInBounds 21 (.int .u32 (rgV cs c))).setIfInBounds 15 (.int .u32 ((rgV cs 21 + 4) % 4294967296)))) (by simp [c21, HC.out.size])
 have HB := hid (belRow (((K_kB.out.trans (Hb2.out.mono HLE)).setCell (p := ⟨w.heap.size, 21, none⟩) (Nat.le_refl _) (.int .u32 (rgV cs c))).setCell (p := ⟨w.heap.size, 15, none⟩) (Nat.le_refl _) (.int .u32 ((rgV cs 21 + 4) % 4294967296))) (g := w.heap.size + 1 + 1) (by omega) (((c21 cs).setIfInBounds 21 (.int .u32 (rgV cs c))).setIfInBounds 15 (.int .u32 ((rgV cs 21 + 4) % 4294967296))))
 have K_hres := hid hres
 clear hres
 go_wp2_with fail
 have hres := K_hres.out
 refine bodyPost_ret (v := .tuple #[.agg (((c21 cs).setIfInBounds 21 (.int .u32 (rgV cs c))).setIfInBounds 15 (.int .u32 ((rgV cs 21 + 4) % 4294967296))), .int .i64 0, .bool false]) ?_ rfl ⟨rfl, HB.out⟩
 simp [results, Tryz.results38, asAddr, hres]
set_option maxRecDepth 100000 in
theorem exec_3yff (cs : Array Value) (hc : CpuOk cs) (a c : Nat) (n l : Int) (hH : holdsV (flV cs 17) (flV cs 18) (flV cs 19) (flV cs 20) a = true) (hr : rightB 3 false false a 0 0 c n = true) (w : World) (hT : Tab w) :
 Calls Tryz.prog 38 #[.agg cs, ins 3 false false a 0 0 c n, .int .u32 l] w fun e w' => e = .returned (.tuple #[.agg ((c21 cs).setIfInBounds 21 (.int .u32 (rgV cs c))), .int .i64 0, .bool false]) ∧ Below w.heap.size w w' := by
 have hF : FlagsAre cs (flV cs 17) (flV cs 18) (flV cs 19) (flV cs 20) := ⟨hc.nV, hc.zV, hc.cV, hc.vV⟩
 have HF := hid hF
 clear hF
 have hcc : c ≤ 15 := by have := (right_inv hr).2.2.1; omega
 obtain ⟨hrc, hrc0, hrc1⟩ := hc.rg (k := c) (by omega)
 have HRC := hid hrc
 clear hrc
 have HT := tabHid hT
 clear hT
 obtain ⟨hpc, hp0, hp1⟩ := hc.pcV
 have HC := hid hc
 have HPC := hid hpc
 clear hc hpc
 unfold ins
 go_enter Tryz.func38, Tryz.ntmps38
 go_upto_region 3 with (go_at_call 53; refine (right_any _ _ _ _ _ _ _ _ _ (HT.out _ (by go_grown))).mono ?_; rintro e w1 ⟨rfl, hb1⟩; obtain ⟨h0, h1, h2, hs, hB⟩ := three hb1; clear hb1)
 have hl := load_cpu h0 HC.out.size
 have hst := store_new0 (w := w1) (t := 50) HC.out.size HC.out.one
 have h21 : w1.cell? ⟨w.heap.size, 21, none⟩ = some (.int .u32 (rgV cs 21)) := (h0.cell 21).trans HPC.out
 have key := exec_head h0 h1 h2 hs hB (.int .u32 ((rgV cs 21 + 4) % 4294967296))
 have hA := ((h0.old (.cells cs 50)).cell 21).trans HPC.out
 have hF := (h0.old (.cells cs 50)).frozen 21
 have H0 := hid h0
 have H1 := hid h1
 have HK := hid key
 clear h0 h1 h2 hB key
 go_upto_region 7 with fail
 clear hl hst h21 hA hF H0 H1
 obtain ⟨k0, k1, k2, k3, kB⟩ := HK.out
 clear HK
 generalize (w1.alloc (.cells cs 50)).setCell ⟨w.heap.size, 21, none⟩ (.int .u32 ((rgV cs 21 + 4) % 4294967296)) = W at k0 k1 k2 k3 kB ⊢
 have kT := HT.out W kB
 clear HT
 have k0 : Blk W w.heap.size (c21 cs) 50 := k0
 have i0 : W.cell? ⟨w.heap.size + 1, 0, none⟩ = some (.int .i64 3) := k1.cell 0
 have i1 : W.cell? ⟨w.heap.size + 1, 1, none⟩ = some (.bool false) := k1.cell 1
 have i2 : W.cell? ⟨w.heap.size + 1, 2, none⟩ = some (.bool false) := k1.cell 2
 have i3 : W.cell? ⟨w.heap.size + 1, 3, none⟩ = some (.int .i64 a) := k1.cell 3
 have i4 : W.cell? ⟨w.heap.size + 1, 4, none⟩ = some (.int .i64 0) := k1.cell 4
 have i5 : W.cell? ⟨w.heap.size + 1, 5, none⟩ = some (.int .i64 0) := k1.cell 5
 have i6 : W.cell? ⟨w.heap.size + 1, 6, none⟩ = some (.int .i64 c) := k1.cell 6
 have i7 : W.cell? ⟨w.heap.size + 1, 7, none⟩ = some (.int .i64 n) := k1.cell 7
 have hlo := load_cpu k3 HC.out.size
 have K_k0 := hid k0
 clear k0
 have K_k1 := hid k1
 clear k1
 have K_k2 := hid k2
 clear k2
 have K_k3 := hid k3
 clear k3
 have K_kB := hid kB
 clear kB
 have K_kT := hid kT
 clear kT
 have K_i1 := hid i1
 clear i1
 have K_i2 := hid i2
 clear i2
 have K_i6 := hid i6
 clear i6
 have K_i7 := hid i7
 clear i7
 go_upto_region 62 with (go_at_call 56; refine (holds_any cs _ _ _ _ HF.out _ _).mono ?_; rintro e w2 ⟨rfl, hb2⟩; clear hlo i0 i3 i4 i5; have j1 : w2.cell? ⟨w.heap.size + 1, 1, none⟩ = some (.bool false) := (K_k1.out.step hb2).cell 1; have j2 : w2.cell? ⟨w.heap.size + 1, 2, none⟩ = some (.bool false) := (K_k1.out.step hb2).cell 2; have j6 : w2.cell? ⟨w.heap.size + 1, 6, none⟩ = some (.int .i64 c) := (K_k1.out.step hb2).cell 6; have j7 : w2.cell? ⟨w.heap.size + 1, 7, none⟩ = some (.int .i64 n) := (K_k1.out.step hb2).cell 7; obtain ⟨x21, q21⟩ := at_some (n := 22) (k := 21) (c21_size HC.out.size) (by omega); have c21' := ((K_k0.out.step hb2).cell 21).trans q21; obtain ⟨x15, q15⟩ := at_some (n := 22) (k := 15) (c21_size HC.out.size) (by omega); have c15' := ((K_k0.out.step hb2).cell 15).trans q15; have cf := fun o => (K_k0.out.step hb2).frozen o; have cr := ((K_k3.out.step hb2).cell c).trans HRC.out; have Hb2 := hid hb2; clear q21 q15 hb2)
 have HLE : w.heap.size ≤ W.heap.size := K_kB.out.size
 have hl := load_cpu ((K_k0.out.step Hb2.out).set 21 (.int .u32 (rgV cs c))) (by simp [c21, HC.out.size])
 have hst := store_cpu ((K_k2.out.step Hb2.out).far (by simp; omega) (p := ⟨w.heap.size, 21, none⟩) (.int .u32 (rgV cs c))) rfl (cs := ((c21 cs).setIfInBounds 21 (.int .u32 (rgV cs c)))) (by simp [c21, HC.out.size]) (OneRow.set (c21_one HC.out.one) 21 (v := .int .u32 (rgV cs c)) rfl)
 have hres := loadVar_cpu (Blk.setRow ((K_k2.out.step Hb2.out).far (by simp; omega) (p := ⟨w.heap.size, 21, none⟩) (.int .u32 (rgV cs c))) ((c21 cs).setIfInBounds 21 (.int .u32 (rgV cs c)))) (by simp [c21, HC.out.size])
 have HB := hid (belRow ((K_kB.out.trans (Hb2.out.mono HLE)).setCell (p := ⟨w.heap.size, 21, none⟩) (Nat.le_refl _) (.int .u32 (rgV cs c))) (g := w.heap.size + 1 + 1) (by omega) ((c21 cs).setIfInBounds 21 (.int .u32 (rgV cs c))))
 have K_hres := hid hres
 clear hres
 go_wp2_with fail
 have hres := K_hres.out
 refine bodyPost_ret (v := .tuple #[.agg ((c21 cs).setIfInBounds 21 (.int .u32 (rgV cs c))), .int .i64 0, .bool false]) ?_ rfl ⟨rfl, HB.out⟩
 simp [results, Tryz.results38, asAddr, hres]
end Go.Proofs.YtgcknekhimpfkaaGreatDoor
namespace Go.Proofs.YtgcknekhimpfkaaGreatDoor
open Go Go.RowKit Go.Lib Go.Proofs.YtgcknekhimpfkaaGreatDoor.Pl
set_option linter.unusedVariables false
set_option linter.unusedSimpArgs false
attribute [local go_sem ↓] exec_load_cpu exec_store_cpu
def opX (cs : Array Value) (f : Int) (v : Bool) (c : Nat) (n : Int) : Int := if f = 0 then rgV cs c else if v then n + 4294901760 else n
theorem opX_bd {cs : Array Value} (hc : CpuOk cs) (f : Int) (v : Bool) {c : Nat} (hcc : c ≤ 15) {n : Int} (h0 : 0 ≤ n) (h1 : n ≤ 65535) : 0 ≤ opX cs f v c n ∧ opX cs f v c n < 4294967296 := by
 have := hc.rg (k := c) (by omega)
 unfold opX
 split
 ·exact this.2
 ·split <;> omega
theorem reck_n {f : Int} {u v : Bool} {a b op c n : Int} (hf : f = 0 ∨ f = 1) (h : rightB f u v a b op c n = true) : 0 ≤ n ∧ n ≤ 65535 := by
 obtain ⟨_, _, _, _, h⟩ := right_inv h
 omega
theorem or_top (n : Int) (h0 : 0 ≤ n) (h1 : n ≤ 65535) : bits .or .u32 n 4294901760 = n + 4294901760 := or_join n 4294901760 16 h0 (by omega) (by simp; omega) (by omega) (by omega) (by simp)
theorem u32_bits_bd (o : BinOp) (x y : Int) : 0 ≤ bits o .u32 x y ∧ bits o .u32 x y < 4294967296 := by
 have := bounds_u32 (wf_bits o .u32 x y)
 omega
def flagsV (n z c v : Bool) : Int := bits .or .u32 (bits .or .u32 (bits .or .u32 (flagV n 31) (flagV z 30)) (flagV c 29)) (flagV v 28)
end Go.Proofs.YtgcknekhimpfkaaGreatDoor
namespace Go.Proofs.YtgcknekhimpfkaaGreatDoor
open Go Go.RowKit Go.Lib Go.Proofs.YtgcknekhimpfkaaGreatDoor.Pl
set_option linter.unusedVariables false
set_option linter.unusedSimpArgs false
attribute [local go_sem ↓] exec_load_cpu exec_store_cpu
set_option maxRecDepth 100000 in
theorem exec_op1 (cs : Array Value) (hc : CpuOk cs) (f : Int) (hf : f = 0 ∨ f = 1) (u v : Bool) (a b c : Nat) (n l : Int) (hr : rightB f u v a b 1 c n = true) (w : World) (hT : Tab w) :
 Calls Tryz.prog 38 #[.agg cs, ins f u v a b 1 c n, .int .u32 l] w fun e w' => e = .returned (.tuple #[.agg (fin (c21 cs) a (lslV (rgV cs b) ((opX cs f v c n) % 32).toNat)), .int .i64 0, .bool false]) ∧ Below w.heap.size w w' := by
 have hn := reck_n (hf) hr
 have hn0 := hn.1
 have hn1 := hn.2
 clear hn
 have ha : a ≤ 15 := by have := (right_inv hr).1; omega
 have hbb : b ≤ 15 := by have := (right_inv hr).2.1; omega
 have hcc : c ≤ 15 := by have := (right_inv hr).2.2.1; omega
 obtain ⟨hrc, hrc0, hrc1⟩ := hc.rg (k := c) (by omega)
 obtain ⟨hrb, hrb0, hrb1⟩ := hc.rg (k := b) (by omega)
 obtain ⟨hX0, hX1⟩ := opX_bd hc f v hcc hn0 hn1
 have hot := or_top n hn0 hn1
 have HRC := hid hrc
 have HRB := hid hrb
 clear hrc hrb
 have hf2 : (f == 2) = false := by simp; omega
 have hf3 : (f == 3) = false := by simp; omega
 have HT := tabHid hT
 clear hT
 obtain ⟨hpc, hp0, hp1⟩ := hc.pcV
 have HC := hid hc
 have HPC := hid hpc
 clear hc hpc
 unfold ins
 go_enter Tryz.func38, Tryz.ntmps38
 go_upto_region 3 with (go_at_call 53; refine (right_any _ _ _ _ _ _ _ _ _ (HT.out _ (by go_grown))).mono ?_; rintro e w1 ⟨rfl, hb1⟩; obtain ⟨h0, h1, h2, hs, hB⟩ := three hb1; clear hb1)
 have hl := load_cpu h0 HC.out.size
 have hst := store_new0 (w := w1) (t := 50) HC.out.size HC.out.one
 have h21 : w1.cell? ⟨w.heap.size, 21, none⟩ = some (.int .u32 (rgV cs 21)) := (h0.cell 21).trans HPC.out
 have key := exec_head h0 h1 h2 hs hB (.int .u32 ((rgV cs 21 + 4) % 4294967296))
 have hA := ((h0.old (.cells cs 50)).cell 21).trans HPC.out
 have hF := (h0.old (.cells cs 50)).frozen 21
 have H0 := hid h0
 have H1 := hid h1
 have HK := hid key
 clear h0 h1 h2 hB key
 go_upto_region 7 with fail
 clear hl hst h21 hA hF H0 H1
 obtain ⟨k0, k1, k2, k3, kB⟩ := HK.out
 clear HK
 generalize (w1.alloc (.cells cs 50)).setCell ⟨w.heap.size, 21, none⟩ (.int .u32 ((rgV cs 21 + 4) % 4294967296)) = W at k0 k1 k2 k3 kB ⊢
 have kT := HT.out W kB
 clear HT
 have k0 : Blk W w.heap.size (c21 cs) 50 := k0
 have i0 : W.cell? ⟨w.heap.size + 1, 0, none⟩ = some (.int .i64 f) := k1.cell 0
 have i1 : W.cell? ⟨w.heap.size + 1, 1, none⟩ = some (.bool u) := k1.cell 1
 have i2 : W.cell? ⟨w.heap.size + 1, 2, none⟩ = some (.bool v) := k1.cell 2
 have i3 : W.cell? ⟨w.heap.size + 1, 3, none⟩ = some (.int .i64 a) := k1.cell 3
 have i4 : W.cell? ⟨w.heap.size + 1, 4, none⟩ = some (.int .i64 b) := k1.cell 4
 have i5 : W.cell? ⟨w.heap.size + 1, 5, none⟩ = some (.int .i64 1) := k1.cell 5
 have i6 : W.cell? ⟨w.heap.size + 1, 6, none⟩ = some (.int .i64 c) := k1.cell 6
 have i7 : W.cell? ⟨w.heap.size + 1, 7, none⟩ = some (.int .i64 n) := k1.cell 7
 have oc := (k3.cell c).trans HRC.out
 have ob := (k3.cell b).trans HRB.out
 have K_k0 := hid k0
 clear k0
 have K_k1 := hid k1
 clear k1
 have K_k2 := hid k2
 clear k2
 have K_k3 := hid k3
 clear k3
 have K_kB := hid kB
 clear kB
 have K_kT := hid kT
 clear kT
 have K_i1 := hid i1
 clear i1
 have K_i3 := hid i3
 clear i3
 have K_i5 := hid i5
 clear i5
 go_upto_if 32 with fail
 go_cut [12] from 33 to 41 (fun s12 wx => s12 = .int .u32 (opX cs f v c n) ∧ W = wx)
 case first =>
  rcases hf with rfl | rfl
  ·go_wp2_with fail
   go_meet
   exact ⟨rfl, rfl⟩
  ·cases v
   ·go_wp2_with fail
    go_meet
    exact ⟨rfl, rfl⟩
   ·go_wp2_with fail
    go_meet
    exact ⟨rfl, rfl⟩
 case rest =>
  obtain ⟨rfl, rfl⟩ := hcut
  clear oc hot i0 i2 i6 i7
  have i1 := K_i1.out
  have i5 := K_i5.out
  go_upto_region 63 with (go_at_call 58; refine (lsl_any _ _ hrb0 hrb1 hX0 hX1 _).mono ?_; rintro e w' ⟨rfl, rfl⟩)
  obtain ⟨⟨xa, ta⟩, ⟨x17, t17⟩, ⟨x18, t18⟩, tf, hl, hst, hres⟩ := tailf K_k0.out K_k2.out (by omega) (by simp [c21, HC.out.size]) rfl (c21_one HC.out.one) a ha
  have hw : Hid (0 ≤ (lslV (rgV cs b) ((opX cs f v c n) % 32).toNat) ∧ (lslV (rgV cs b) ((opX cs f v c n) % 32).toNat) < 4294967296) := lslV_bd _ _
  have hB := hid K_kB.out
  have i3 : W.cell? ⟨w.heap.size + 1, 3, none⟩ = some (.int .i64 a) := K_k1.out.cell 3
  have K_hres := hid hres
  clear hres
  go_wp2_with fail
  have hres := K_hres.out
  refine bodyPost_ret (v := .tuple #[.agg (finR (c21 cs) a (lslV (rgV cs b) ((opX cs f v c n) % 32).toNat) ((lslV (rgV cs b) ((opX cs f v c n) % 32).toNat) / 2147483648 != 0) ((lslV (rgV cs b) ((opX cs f v c n) % 32).toNat) == 0)), .int .i64 0, .bool false]) ?_ rfl ⟨by rw [finR_fin _ _ _ hw.out.1 hw.out.2]; try rfl, belRow (bel_chain hB.out _ _ _ _) (by omega) _⟩
  simp [results, Tryz.results38, asAddr, hres]
set_option maxRecDepth 100000 in
theorem exec_op2 (cs : Array Value) (hc : CpuOk cs) (f : Int) (hf : f = 0 ∨ f = 1) (u v : Bool) (a b c : Nat) (n l : Int) (hr : rightB f u v a b 2 c n = true) (w : World) (hT : Tab w) :
 Calls Tryz.prog 38 #[.agg cs, ins f u v a b 2 c n, .int .u32 l] w fun e w' => e = .returned (.tuple #[.agg (fin (c21 cs) a (asrV (rgV cs b) ((opX cs f v c n) % 32).toNat)), .int .i64 0, .bool false]) ∧ Below w.heap.size w w' := by
 have hn := reck_n (hf) hr
 have hn0 := hn.1
 have hn1 := hn.2
 clear hn
 have ha : a ≤ 15 := by have := (right_inv hr).1; omega
 have hbb : b ≤ 15 := by have := (right_inv hr).2.1; omega
 have hcc : c ≤ 15 := by have := (right_inv hr).2.2.1; omega
 obtain ⟨hrc, hrc0, hrc1⟩ := hc.rg (k := c) (by omega)
 obtain ⟨hrb, hrb0, hrb1⟩ := hc.rg (k := b) (by omega)
 obtain ⟨hX0, hX1⟩ := opX_bd hc f v hcc hn0 hn1
 have hot := or_top n hn0 hn1
 have HRC := hid hrc
 have HRB := hid hrb
 clear hrc hrb
 have hf2 : (f == 2) = false := by simp; omega
 have hf3 : (f == 3) = false := by simp; omega
 have HT := tabHid hT
 clear hT
 obtain ⟨hpc, hp0, hp1⟩ := hc.pcV
 have HC := hid hc
 have HPC := hid hpc
 clear hc hpc
 unfold ins
 go_enter Tryz.func38, Tryz.ntmps38
 go_upto_region 3 with (go_at_call 53; refine (right_any _ _ _ _ _ _ _ _ _ (HT.out _ (by go_grown))).mono ?_; rintro e w1 ⟨rfl, hb1⟩; obtain ⟨h0, h1, h2, hs, hB⟩ := three hb1; clear hb1)
 have hl := load_cpu h0 HC.out.size
 have hst := store_new0 (w := w1) (t := 50) HC.out.size HC.out.one
 have h21 : w1.cell? ⟨w.heap.size, 21, none⟩ = some (.int .u32 (rgV cs 21)) := (h0.cell 21).trans HPC.out
 have key := exec_head h0 h1 h2 hs hB (.int .u32 ((rgV cs 21 + 4) % 4294967296))
 have hA := ((h0.old (.cells cs 50)).cell 21).trans HPC.out
 have hF := (h0.old (.cells cs 50)).frozen 21
 have H0 := hid h0
 have H1 := hid h1
 have HK := hid key
 clear h0 h1 h2 hB key
 go_upto_region 7 with fail
 clear hl hst h21 hA hF H0 H1
 obtain ⟨k0, k1, k2, k3, kB⟩ := HK.out
 clear HK
 generalize (w1.alloc (.cells cs 50)).setCell ⟨w.heap.size, 21, none⟩ (.int .u32 ((rgV cs 21 + 4) % 4294967296)) = W at k0 k1 k2 k3 kB ⊢
 have kT := HT.out W kB
 clear HT
 have k0 : Blk W w.heap.size (c21 cs) 50 := k0
 have i0 : W.cell? ⟨w.heap.size + 1, 0, none⟩ = some (.int .i64 f) := k1.cell 0
 have i1 : W.cell? ⟨w.heap.size + 1, 1, none⟩ = some (.bool u) := k1.cell 1
 have i2 : W.cell? ⟨w.heap.size + 1, 2, none⟩ = some (.bool v) := k1.cell 2
 have i3 : W.cell? ⟨w.heap.size + 1, 3, none⟩ = some (.int .i64 a) := k1.cell 3
 have i4 : W.cell? ⟨w.heap.size + 1, 4, none⟩ = some (.int .i64 b) := k1.cell 4
 have i5 : W.cell? ⟨w.heap.size + 1, 5, none⟩ = some (.int .i64 2) := k1.cell 5
 have i6 : W.cell? ⟨w.heap.size + 1, 6, none⟩ = some (.int .i64 c) := k1.cell 6
 have i7 : W.cell? ⟨w.heap.size + 1, 7, none⟩ = some (.int .i64 n) := k1.cell 7
 have oc := (k3.cell c).trans HRC.out
 have ob := (k3.cell b).trans HRB.out
 have K_k0 := hid k0
 clear k0
 have K_k1 := hid k1
 clear k1
 have K_k2 := hid k2
 clear k2
 have K_k3 := hid k3
 clear k3
 have K_kB := hid kB
 clear kB
 have K_kT := hid kT
 clear kT
 have K_i1 := hid i1
 clear i1
 have K_i3 := hid i3
 clear i3
 have K_i5 := hid i5
 clear i5
 go_upto_if 32 with fail
 go_cut [12] from 33 to 41 (fun s12 wx => s12 = .int .u32 (opX cs f v c n) ∧ W = wx)
 case first =>
  rcases hf with rfl | rfl
  ·go_wp2_with fail
   go_meet
   exact ⟨rfl, rfl⟩
  ·cases v
   ·go_wp2_with fail
    go_meet
    exact ⟨rfl, rfl⟩
   ·go_wp2_with fail
    go_meet
    exact ⟨rfl, rfl⟩
 case rest =>
  obtain ⟨rfl, rfl⟩ := hcut
  clear oc hot i0 i2 i6 i7
  have i1 := K_i1.out
  have i5 := K_i5.out
  go_upto_region 63 with (go_at_call 59; refine (asr_any _ _ hrb0 hrb1 hX0 hX1 _).mono ?_; rintro e w' ⟨rfl, rfl⟩)
  obtain ⟨⟨xa, ta⟩, ⟨x17, t17⟩, ⟨x18, t18⟩, tf, hl, hst, hres⟩ := tailf K_k0.out K_k2.out (by omega) (by simp [c21, HC.out.size]) rfl (c21_one HC.out.one) a ha
  have hw : Hid (0 ≤ (asrV (rgV cs b) ((opX cs f v c n) % 32).toNat) ∧ (asrV (rgV cs b) ((opX cs f v c n) % 32).toNat) < 4294967296) := asrV_bd _ _
  have hB := hid K_kB.out
  have i3 : W.cell? ⟨w.heap.size + 1, 3, none⟩ = some (.int .i64 a) := K_k1.out.cell 3
  have K_hres := hid hres
  clear hres
  go_wp2_with fail
  have hres := K_hres.out
  refine bodyPost_ret (v := .tuple #[.agg (finR (c21 cs) a (asrV (rgV cs b) ((opX cs f v c n) % 32).toNat) ((asrV (rgV cs b) ((opX cs f v c n) % 32).toNat) / 2147483648 != 0) ((asrV (rgV cs b) ((opX cs f v c n) % 32).toNat) == 0)), .int .i64 0, .bool false]) ?_ rfl ⟨by rw [finR_fin _ _ _ hw.out.1 hw.out.2]; try rfl, belRow (bel_chain hB.out _ _ _ _) (by omega) _⟩
  simp [results, Tryz.results38, asAddr, hres]
set_option maxRecDepth 100000 in
theorem exec_op3 (cs : Array Value) (hc : CpuOk cs) (f : Int) (hf : f = 0 ∨ f = 1) (u v : Bool) (a b c : Nat) (n l : Int) (hr : rightB f u v a b 3 c n = true) (w : World) (hT : Tab w) :
 Calls Tryz.prog 38 #[.agg cs, ins f u v a b 3 c n, .int .u32 l] w fun e w' => e = .returned (.tuple #[.agg (fin (c21 cs) a (rorV (rgV cs b) ((opX cs f v c n) % 32).toNat)), .int .i64 0, .bool false]) ∧ Below w.heap.size w w' := by
 have hn := reck_n (hf) hr
 have hn0 := hn.1
 have hn1 := hn.2
 clear hn
 have ha : a ≤ 15 := by have := (right_inv hr).1; omega
 have hbb : b ≤ 15 := by have := (right_inv hr).2.1; omega
 have hcc : c ≤ 15 := by have := (right_inv hr).2.2.1; omega
 obtain ⟨hrc, hrc0, hrc1⟩ := hc.rg (k := c) (by omega)
 obtain ⟨hrb, hrb0, hrb1⟩ := hc.rg (k := b) (by omega)
 obtain ⟨hX0, hX1⟩ := opX_bd hc f v hcc hn0 hn1
 have hot := or_top n hn0 hn1
 have HRC := hid hrc
 have HRB := hid hrb
 clear hrc hrb
 have hf2 : (f == 2) = false := by simp; omega
 have hf3 : (f == 3) = false := by simp; omega
 have HT := tabHid hT
 clear hT
 obtain ⟨hpc, hp0, hp1⟩ := hc.pcV
 have HC := hid hc
 have HPC := hid hpc
 clear hc hpc
 unfold ins
 go_enter Tryz.func38, Tryz.ntmps38
 go_upto_region 3 with (go_at_call 53; refine (right_any _ _ _ _ _ _ _ _ _ (HT.out _ (by go_grown))).mono ?_; rintro e w1 ⟨rfl, hb1⟩; obtain ⟨h0, h1, h2, hs, hB⟩ := three hb1; clear hb1)
 have hl := load_cpu h0 HC.out.size
 have hst := store_new0 (w := w1) (t := 50) HC.out.size HC.out.one
 have h21 : w1.cell? ⟨w.heap.size, 21, none⟩ = some (.int .u32 (rgV cs 21)) := (h0.cell 21).trans HPC.out
 have key := exec_head h0 h1 h2 hs hB (.int .u32 ((rgV cs 21 + 4) % 4294967296))
 have hA := ((h0.old (.cells cs 50)).cell 21).trans HPC.out
 have hF := (h0.old (.cells cs 50)).frozen 21
 have H0 := hid h0
 have H1 := hid h1
 have HK := hid key
 clear h0 h1 h2 hB key
 go_upto_region 7 with fail
 clear hl hst h21 hA hF H0 H1
 obtain ⟨k0, k1, k2, k3, kB⟩ := HK.out
 clear HK
 generalize (w1.alloc (.cells cs 50)).setCell ⟨w.heap.size, 21, none⟩ (.int .u32 ((rgV cs 21 + 4) % 4294967296)) = W at k0 k1 k2 k3 kB ⊢
 have kT := HT.out W kB
 clear HT
 have k0 : Blk W w.heap.size (c21 cs) 50 := k0
 have i0 : W.cell? ⟨w.heap.size + 1, 0, none⟩ = some (.int .i64 f) := k1.cell 0
 have i1 : W.cell? ⟨w.heap.size + 1, 1, none⟩ = some (.bool u) := k1.cell 1
 have i2 : W.cell? ⟨w.heap.size + 1, 2, none⟩ = some (.bool v) := k1.cell 2
 have i3 : W.cell? ⟨w.heap.size + 1, 3, none⟩ = some (.int .i64 a) := k1.cell 3
 have i4 : W.cell? ⟨w.heap.size + 1, 4, none⟩ = some (.int .i64 b) := k1.cell 4
 have i5 : W.cell? ⟨w.heap.size + 1, 5, none⟩ = some (.int .i64 3) := k1.cell 5
 have i6 : W.cell? ⟨w.heap.size + 1, 6, none⟩ = some (.int .i64 c) := k1.cell 6
 have i7 : W.cell? ⟨w.heap.size + 1, 7, none⟩ = some (.int .i64 n) := k1.cell 7
 have oc := (k3.cell c).trans HRC.out
 have ob := (k3.cell b).trans HRB.out
 have K_k0 := hid k0
 clear k0
 have K_k1 := hid k1
 clear k1
 have K_k2 := hid k2
 clear k2
 have K_k3 := hid k3
 clear k3
 have K_kB := hid kB
 clear kB
 have K_kT := hid kT
 clear kT
 have K_i1 := hid i1
 clear i1
 have K_i3 := hid i3
 clear i3
 have K_i5 := hid i5
 clear i5
 go_upto_if 32 with fail
 go_cut [12] from 33 to 41 (fun s12 wx => s12 = .int .u32 (opX cs f v c n) ∧ W = wx)
 case first =>
  rcases hf with rfl | rfl
  ·go_wp2_with fail
   go_meet
   exact ⟨rfl, rfl⟩
  ·cases v
   ·go_wp2_with fail
    go_meet
    exact ⟨rfl, rfl⟩
   ·go_wp2_with fail
    go_meet
    exact ⟨rfl, rfl⟩
 case rest =>
  obtain ⟨rfl, rfl⟩ := hcut
  clear oc hot i0 i2 i6 i7
  have i1 := K_i1.out
  have i5 := K_i5.out
  go_upto_region 63 with (go_at_call 60; refine (ror_any _ _ hrb0 hrb1 hX0 hX1 _).mono ?_; rintro e w' ⟨rfl, rfl⟩)
  obtain ⟨⟨xa, ta⟩, ⟨x17, t17⟩, ⟨x18, t18⟩, tf, hl, hst, hres⟩ := tailf K_k0.out K_k2.out (by omega) (by simp [c21, HC.out.size]) rfl (c21_one HC.out.one) a ha
  have hw : Hid (0 ≤ (rorV (rgV cs b) ((opX cs f v c n) % 32).toNat) ∧ (rorV (rgV cs b) ((opX cs f v c n) % 32).toNat) < 4294967296) := rorV_bd _ _ (by omega) hrb0 hrb1
  have hB := hid K_kB.out
  have i3 : W.cell? ⟨w.heap.size + 1, 3, none⟩ = some (.int .i64 a) := K_k1.out.cell 3
  have K_hres := hid hres
  clear hres
  go_wp2_with fail
  have hres := K_hres.out
  refine bodyPost_ret (v := .tuple #[.agg (finR (c21 cs) a (rorV (rgV cs b) ((opX cs f v c n) % 32).toNat) ((rorV (rgV cs b) ((opX cs f v c n) % 32).toNat) / 2147483648 != 0) ((rorV (rgV cs b) ((opX cs f v c n) % 32).toNat) == 0)), .int .i64 0, .bool false]) ?_ rfl ⟨by rw [finR_fin _ _ _ hw.out.1 hw.out.2]; try rfl, belRow (bel_chain hB.out _ _ _ _) (by omega) _⟩
  simp [results, Tryz.results38, asAddr, hres]
set_option maxRecDepth 100000 in
theorem exec_op4 (cs : Array Value) (hc : CpuOk cs) (f : Int) (hf : f = 0 ∨ f = 1) (u v : Bool) (a b c : Nat) (n l : Int) (hr : rightB f u v a b 4 c n = true) (w : World) (hT : Tab w) :
 Calls Tryz.prog 38 #[.agg cs, ins f u v a b 4 c n, .int .u32 l] w fun e w' => e = .returned (.tuple #[.agg (fin (c21 cs) a (bits .and .u32 (rgV cs b) (opX cs f v c n))), .int .i64 0, .bool false]) ∧ Below w.heap.size w w' := by
 have hn := reck_n (hf) hr
 have hn0 := hn.1
 have hn1 := hn.2
 clear hn
 have ha : a ≤ 15 := by have := (right_inv hr).1; omega
 have hbb : b ≤ 15 := by have := (right_inv hr).2.1; omega
 have hcc : c ≤ 15 := by have := (right_inv hr).2.2.1; omega
 obtain ⟨hrc, hrc0, hrc1⟩ := hc.rg (k := c) (by omega)
 obtain ⟨hrb, hrb0, hrb1⟩ := hc.rg (k := b) (by omega)
 obtain ⟨hX0, hX1⟩ := opX_bd hc f v hcc hn0 hn1
 have hot := or_top n hn0 hn1
 have HRC := hid hrc
 have HRB := hid hrb
 clear hrc hrb
 have hf2 : (f == 2) = false := by simp; omega
 have hf3 : (f == 3) = false := by simp; omega
 have HT := tabHid hT
 clear hT
 obtain ⟨hpc, hp0, hp1⟩ := hc.pcV
 have HC := hid hc
 have HPC := hid hpc
 clear hc hpc
 unfold ins
 go_enter Tryz.func38, Tryz.ntmps38
 go_upto_region 3 with (go_at_call 53; refine (right_any _ _ _ _ _ _ _ _ _ (HT.out _ (by go_grown))).mono ?_; rintro e w1 ⟨rfl, hb1⟩; obtain ⟨h0, h1, h2, hs, hB⟩ := three hb1; clear hb1)
 have hl := load_cpu h0 HC.out.size
 have hst := store_new0 (w := w1) (t := 50) HC.out.size HC.out.one
 have h21 : w1.cell? ⟨w.heap.size, 21, none⟩ = some (.int .u32 (rgV cs 21)) := (h0.cell 21).trans HPC.out
 have key := exec_head h0 h1 h2 hs hB (.int .u32 ((rgV cs 21 + 4) % 4294967296))
 have hA := ((h0.old (.cells cs 50)).cell 21).trans HPC.out
 have hF := (h0.old (.cells cs 50)).frozen 21
 have H0 := hid h0
 have H1 := hid h1
 have HK := hid key
 clear h0 h1 h2 hB key
 go_upto_region 7 with fail
 clear hl hst h21 hA hF H0 H1
 obtain ⟨k0, k1, k2, k3, kB⟩ := HK.out
 clear HK
 generalize (w1.alloc (.cells cs 50)).setCell ⟨w.heap.size, 21, none⟩ (.int .u32 ((rgV cs 21 + 4) % 4294967296)) = W at k0 k1 k2 k3 kB ⊢
 have kT := HT.out W kB
 clear HT
 have k0 : Blk W w.heap.size (c21 cs) 50 := k0
 have i0 : W.cell? ⟨w.heap.size + 1, 0, none⟩ = some (.int .i64 f) := k1.cell 0
 have i1 : W.cell? ⟨w.heap.size + 1, 1, none⟩ = some (.bool u) := k1.cell 1
 have i2 : W.cell? ⟨w.heap.size + 1, 2, none⟩ = some (.bool v) := k1.cell 2
 have i3 : W.cell? ⟨w.heap.size + 1, 3, none⟩ = some (.int .i64 a) := k1.cell 3
 have i4 : W.cell? ⟨w.heap.size + 1, 4, none⟩ = some (.int .i64 b) := k1.cell 4
 have i5 : W.cell? ⟨w.heap.size + 1, 5, none⟩ = some (.int .i64 4) := k1.cell 5
 have i6 : W.cell? ⟨w.heap.size + 1, 6, none⟩ = some (.int .i64 c) := k1.cell 6
 have i7 : W.cell? ⟨w.heap.size + 1, 7, none⟩ = some (.int .i64 n) := k1.cell 7
 have oc := (k3.cell c).trans HRC.out
 have ob := (k3.cell b).trans HRB.out
 have K_k0 := hid k0
 clear k0
 have K_k1 := hid k1
 clear k1
 have K_k2 := hid k2
 clear k2
 have K_k3 := hid k3
 clear k3
 have K_kB := hid kB
 clear kB
 have K_kT := hid kT
 clear kT
 have K_i1 := hid i1
 clear i1
 have K_i3 := hid i3
 clear i3
 have K_i5 := hid i5
 clear i5
 go_upto_if 32 with fail
 go_cut [12] from 33 to 41 (fun s12 wx => s12 = .int .u32 (opX cs f v c n) ∧ W = wx)
 case first =>
  rcases hf with rfl | rfl
  ·go_wp2_with fail
   go_meet
   exact ⟨rfl, rfl⟩
  ·cases v
   ·go_wp2_with fail
    go_meet
    exact ⟨rfl, rfl⟩
   ·go_wp2_with fail
    go_meet
    exact ⟨rfl, rfl⟩
 case rest =>
  obtain ⟨rfl, rfl⟩ := hcut
  clear oc hot i0 i2 i6 i7
  have i1 := K_i1.out
  have i5 := K_i5.out
  go_upto_region 63 with fail
  obtain ⟨⟨xa, ta⟩, ⟨x17, t17⟩, ⟨x18, t18⟩, tf, hl, hst, hres⟩ := tailf K_k0.out K_k2.out (by omega) (by simp [c21, HC.out.size]) rfl (c21_one HC.out.one) a ha
  have hw : Hid (0 ≤ (bits .and .u32 (rgV cs b) (opX cs f v c n)) ∧ (bits .and .u32 (rgV cs b) (opX cs f v c n)) < 4294967296) := u32_bits_bd .and _ _
  have hB := hid K_kB.out
  have i3 : W.cell? ⟨w.heap.size + 1, 3, none⟩ = some (.int .i64 a) := K_k1.out.cell 3
  have K_hres := hid hres
  clear hres
  go_wp2_with fail
  have hres := K_hres.out
  refine bodyPost_ret (v := .tuple #[.agg (finR (c21 cs) a (bits .and .u32 (rgV cs b) (opX cs f v c n)) ((bits .and .u32 (rgV cs b) (opX cs f v c n)) / 2147483648 != 0) ((bits .and .u32 (rgV cs b) (opX cs f v c n)) == 0)), .int .i64 0, .bool false]) ?_ rfl ⟨by rw [finR_fin _ _ _ hw.out.1 hw.out.2]; try rfl, belRow (bel_chain hB.out _ _ _ _) (by omega) _⟩
  simp [results, Tryz.results38, asAddr, hres]
end Go.Proofs.YtgcknekhimpfkaaGreatDoor
namespace Go.Proofs.YtgcknekhimpfkaaGreatDoor
open Go Go.RowKit Go.Lib Go.Proofs.YtgcknekhimpfkaaGreatDoor.Pl
set_option linter.unusedVariables false
set_option linter.unusedSimpArgs false
attribute [local go_sem ↓] exec_load_cpu exec_store_cpu
set_option maxRecDepth 100000 in
theorem exec_op5 (cs : Array Value) (hc : CpuOk cs) (f : Int) (hf : f = 0 ∨ f = 1) (u v : Bool) (a b c : Nat) (n l : Int) (hr : rightB f u v a b 5 c n = true) (w : World) (hT : Tab w) :
 Calls Tryz.prog 38 #[.agg cs, ins f u v a b 5 c n, .int .u32 l] w fun e w' => e = .returned (.tuple #[.agg (fin (c21 cs) a (bits .andNot .u32 (rgV cs b) (opX cs f v c n))), .int .i64 0, .bool false]) ∧ Below w.heap.size w w' := by
 have hn := reck_n (hf) hr
 have hn0 := hn.1
 have hn1 := hn.2
 clear hn
 have ha : a ≤ 15 := by have := (right_inv hr).1; omega
 have hbb : b ≤ 15 := by have := (right_inv hr).2.1; omega
 have hcc : c ≤ 15 := by have := (right_inv hr).2.2.1; omega
 obtain ⟨hrc, hrc0, hrc1⟩ := hc.rg (k := c) (by omega)
 obtain ⟨hrb, hrb0, hrb1⟩ := hc.rg (k := b) (by omega)
 obtain ⟨hX0, hX1⟩ := opX_bd hc f v hcc hn0 hn1
 have hot := or_top n hn0 hn1
 have HRC := hid hrc
 have HRB := hid hrb
 clear hrc hrb
 have hf2 : (f == 2) = false := by simp; omega
 have hf3 : (f == 3) = false := by simp; omega
 have HT := tabHid hT
 clear hT
 obtain ⟨hpc, hp0, hp1⟩ := hc.pcV
 have HC := hid hc
 have HPC := hid hpc
 clear hc hpc
 unfold ins
 go_enter Tryz.func38, Tryz.ntmps38
 go_upto_region 3 with (go_at_call 53; refine (right_any _ _ _ _ _ _ _ _ _ (HT.out _ (by go_grown))).mono ?_; rintro e w1 ⟨rfl, hb1⟩; obtain ⟨h0, h1, h2, hs, hB⟩ := three hb1; clear hb1)
 have hl := load_cpu h0 HC.out.size
 have hst := store_new0 (w := w1) (t := 50) HC.out.size HC.out.one
 have h21 : w1.cell? ⟨w.heap.size, 21, none⟩ = some (.int .u32 (rgV cs 21)) := (h0.cell 21).trans HPC.out
 have key := exec_head h0 h1 h2 hs hB (.int .u32 ((rgV cs 21 + 4) % 4294967296))
 have hA := ((h0.old (.cells cs 50)).cell 21).trans HPC.out
 have hF := (h0.old (.cells cs 50)).frozen 21
 have H0 := hid h0
 have H1 := hid h1
 have HK := hid key
 clear h0 h1 h2 hB key
 go_upto_region 7 with fail
 clear hl hst h21 hA hF H0 H1
 obtain ⟨k0, k1, k2, k3, kB⟩ := HK.out
 clear HK
 generalize (w1.alloc (.cells cs 50)).setCell ⟨w.heap.size, 21, none⟩ (.int .u32 ((rgV cs 21 + 4) % 4294967296)) = W at k0 k1 k2 k3 kB ⊢
 have kT := HT.out W kB
 clear HT
 have k0 : Blk W w.heap.size (c21 cs) 50 := k0
 have i0 : W.cell? ⟨w.heap.size + 1, 0, none⟩ = some (.int .i64 f) := k1.cell 0
 have i1 : W.cell? ⟨w.heap.size + 1, 1, none⟩ = some (.bool u) := k1.cell 1
 have i2 : W.cell? ⟨w.heap.size + 1, 2, none⟩ = some (.bool v) := k1.cell 2
 have i3 : W.cell? ⟨w.heap.size + 1, 3, none⟩ = some (.int .i64 a) := k1.cell 3
 have i4 : W.cell? ⟨w.heap.size + 1, 4, none⟩ = some (.int .i64 b) := k1.cell 4
 have i5 : W.cell? ⟨w.heap.size + 1, 5, none⟩ = some (.int .i64 5) := k1.cell 5
 have i6 : W.cell? ⟨w.heap.size + 1, 6, none⟩ = some (.int .i64 c) := k1.cell 6
 have i7 : W.cell? ⟨w.heap.size + 1, 7, none⟩ = some (.int .i64 n) := k1.cell 7
 have oc := (k3.cell c).trans HRC.out
 have ob := (k3.cell b).trans HRB.out
 have K_k0 := hid k0
 clear k0
 have K_k1 := hid k1
 clear k1
 have K_k2 := hid k2
 clear k2
 have K_k3 := hid k3
 clear k3
 have K_kB := hid kB
 clear kB
 have K_kT := hid kT
 clear kT
 have K_i1 := hid i1
 clear i1
 have K_i3 := hid i3
 clear i3
 have K_i5 := hid i5
 clear i5
 go_upto_if 32 with fail
 go_cut [12] from 33 to 41 (fun s12 wx => s12 = .int .u32 (opX cs f v c n) ∧ W = wx)
 case first =>
  rcases hf with rfl | rfl
  ·go_wp2_with fail
   go_meet
   exact ⟨rfl, rfl⟩
  ·cases v
   ·go_wp2_with fail
    go_meet
    exact ⟨rfl, rfl⟩
   ·go_wp2_with fail
    go_meet
    exact ⟨rfl, rfl⟩
 case rest =>
  obtain ⟨rfl, rfl⟩ := hcut
  clear oc hot i0 i2 i6 i7
  have i1 := K_i1.out
  have i5 := K_i5.out
  go_upto_region 63 with fail
  obtain ⟨⟨xa, ta⟩, ⟨x17, t17⟩, ⟨x18, t18⟩, tf, hl, hst, hres⟩ := tailf K_k0.out K_k2.out (by omega) (by simp [c21, HC.out.size]) rfl (c21_one HC.out.one) a ha
  have hw : Hid (0 ≤ (bits .andNot .u32 (rgV cs b) (opX cs f v c n)) ∧ (bits .andNot .u32 (rgV cs b) (opX cs f v c n)) < 4294967296) := u32_bits_bd .andNot _ _
  have hB := hid K_kB.out
  have i3 : W.cell? ⟨w.heap.size + 1, 3, none⟩ = some (.int .i64 a) := K_k1.out.cell 3
  have K_hres := hid hres
  clear hres
  go_wp2_with fail
  have hres := K_hres.out
  refine bodyPost_ret (v := .tuple #[.agg (finR (c21 cs) a (bits .andNot .u32 (rgV cs b) (opX cs f v c n)) ((bits .andNot .u32 (rgV cs b) (opX cs f v c n)) / 2147483648 != 0) ((bits .andNot .u32 (rgV cs b) (opX cs f v c n)) == 0)), .int .i64 0, .bool false]) ?_ rfl ⟨by rw [finR_fin _ _ _ hw.out.1 hw.out.2]; try rfl, belRow (bel_chain hB.out _ _ _ _) (by omega) _⟩
  simp [results, Tryz.results38, asAddr, hres]
set_option maxRecDepth 100000 in
theorem exec_op6 (cs : Array Value) (hc : CpuOk cs) (f : Int) (hf : f = 0 ∨ f = 1) (u v : Bool) (a b c : Nat) (n l : Int) (hr : rightB f u v a b 6 c n = true) (w : World) (hT : Tab w) :
 Calls Tryz.prog 38 #[.agg cs, ins f u v a b 6 c n, .int .u32 l] w fun e w' => e = .returned (.tuple #[.agg (fin (c21 cs) a (bits .or .u32 (rgV cs b) (opX cs f v c n))), .int .i64 0, .bool false]) ∧ Below w.heap.size w w' := by
 have hn := reck_n (hf) hr
 have hn0 := hn.1
 have hn1 := hn.2
 clear hn
 have ha : a ≤ 15 := by have := (right_inv hr).1; omega
 have hbb : b ≤ 15 := by have := (right_inv hr).2.1; omega
 have hcc : c ≤ 15 := by have := (right_inv hr).2.2.1; omega
 obtain ⟨hrc, hrc0, hrc1⟩ := hc.rg (k := c) (by omega)
 obtain ⟨hrb, hrb0, hrb1⟩ := hc.rg (k := b) (by omega)
 obtain ⟨hX0, hX1⟩ := opX_bd hc f v hcc hn0 hn1
 have hot := or_top n hn0 hn1
 have HRC := hid hrc
 have HRB := hid hrb
 clear hrc hrb
 have hf2 : (f == 2) = false := by simp; omega
 have hf3 : (f == 3) = false := by simp; omega
 have HT := tabHid hT
 clear hT
 obtain ⟨hpc, hp0, hp1⟩ := hc.pcV
 have HC := hid hc
 have HPC := hid hpc
 clear hc hpc
 unfold ins
 go_enter Tryz.func38, Tryz.ntmps38
 go_upto_region 3 with (go_at_call 53; refine (right_any _ _ _ _ _ _ _ _ _ (HT.out _ (by go_grown))).mono ?_; rintro e w1 ⟨rfl, hb1⟩; obtain ⟨h0, h1, h2, hs, hB⟩ := three hb1; clear hb1)
 have hl := load_cpu h0 HC.out.size
 have hst := store_new0 (w := w1) (t := 50) HC.out.size HC.out.one
 have h21 : w1.cell? ⟨w.heap.size, 21, none⟩ = some (.int .u32 (rgV cs 21)) := (h0.cell 21).trans HPC.out
 have key := exec_head h0 h1 h2 hs hB (.int .u32 ((rgV cs 21 + 4) % 4294967296))
 have hA := ((h0.old (.cells cs 50)).cell 21).trans HPC.out
 have hF := (h0.old (.cells cs 50)).frozen 21
 have H0 := hid h0
 have H1 := hid h1
 have HK := hid key
 clear h0 h1 h2 hB key
 go_upto_region 7 with fail
 clear hl hst h21 hA hF H0 H1
 obtain ⟨k0, k1, k2, k3, kB⟩ := HK.out
 clear HK
 generalize (w1.alloc (.cells cs 50)).setCell ⟨w.heap.size, 21, none⟩ (.int .u32 ((rgV cs 21 + 4) % 4294967296)) = W at k0 k1 k2 k3 kB ⊢
 have kT := HT.out W kB
 clear HT
 have k0 : Blk W w.heap.size (c21 cs) 50 := k0
 have i0 : W.cell? ⟨w.heap.size + 1, 0, none⟩ = some (.int .i64 f) := k1.cell 0
 have i1 : W.cell? ⟨w.heap.size + 1, 1, none⟩ = some (.bool u) := k1.cell 1
 have i2 : W.cell? ⟨w.heap.size + 1, 2, none⟩ = some (.bool v) := k1.cell 2
 have i3 : W.cell? ⟨w.heap.size + 1, 3, none⟩ = some (.int .i64 a) := k1.cell 3
 have i4 : W.cell? ⟨w.heap.size + 1, 4, none⟩ = some (.int .i64 b) := k1.cell 4
 have i5 : W.cell? ⟨w.heap.size + 1, 5, none⟩ = some (.int .i64 6) := k1.cell 5
 have i6 : W.cell? ⟨w.heap.size + 1, 6, none⟩ = some (.int .i64 c) := k1.cell 6
 have i7 : W.cell? ⟨w.heap.size + 1, 7, none⟩ = some (.int .i64 n) := k1.cell 7
 have oc := (k3.cell c).trans HRC.out
 have ob := (k3.cell b).trans HRB.out
 have K_k0 := hid k0
 clear k0
 have K_k1 := hid k1
 clear k1
 have K_k2 := hid k2
 clear k2
 have K_k3 := hid k3
 clear k3
 have K_kB := hid kB
 clear kB
 have K_kT := hid kT
 clear kT
 have K_i1 := hid i1
 clear i1
 have K_i3 := hid i3
 clear i3
 have K_i5 := hid i5
 clear i5
 go_upto_if 32 with fail
 go_cut [12] from 33 to 41 (fun s12 wx => s12 = .int .u32 (opX cs f v c n) ∧ W = wx)
 case first =>
  rcases hf with rfl | rfl
  ·go_wp2_with fail
   go_meet
   exact ⟨rfl, rfl⟩
  ·cases v
   ·go_wp2_with fail
    go_meet
    exact ⟨rfl, rfl⟩
   ·go_wp2_with fail
    go_meet
    exact ⟨rfl, rfl⟩
 case rest =>
  obtain ⟨rfl, rfl⟩ := hcut
  clear oc hot i0 i2 i6 i7
  have i1 := K_i1.out
  have i5 := K_i5.out
  go_upto_region 63 with fail
  obtain ⟨⟨xa, ta⟩, ⟨x17, t17⟩, ⟨x18, t18⟩, tf, hl, hst, hres⟩ := tailf K_k0.out K_k2.out (by omega) (by simp [c21, HC.out.size]) rfl (c21_one HC.out.one) a ha
  have hw : Hid (0 ≤ (bits .or .u32 (rgV cs b) (opX cs f v c n)) ∧ (bits .or .u32 (rgV cs b) (opX cs f v c n)) < 4294967296) := u32_bits_bd .or _ _
  have hB := hid K_kB.out
  have i3 : W.cell? ⟨w.heap.size + 1, 3, none⟩ = some (.int .i64 a) := K_k1.out.cell 3
  have K_hres := hid hres
  clear hres
  go_wp2_with fail
  have hres := K_hres.out
  refine bodyPost_ret (v := .tuple #[.agg (finR (c21 cs) a (bits .or .u32 (rgV cs b) (opX cs f v c n)) ((bits .or .u32 (rgV cs b) (opX cs f v c n)) / 2147483648 != 0) ((bits .or .u32 (rgV cs b) (opX cs f v c n)) == 0)), .int .i64 0, .bool false]) ?_ rfl ⟨by rw [finR_fin _ _ _ hw.out.1 hw.out.2]; try rfl, belRow (bel_chain hB.out _ _ _ _) (by omega) _⟩
  simp [results, Tryz.results38, asAddr, hres]
set_option maxRecDepth 100000 in
theorem exec_op7 (cs : Array Value) (hc : CpuOk cs) (f : Int) (hf : f = 0 ∨ f = 1) (u v : Bool) (a b c : Nat) (n l : Int) (hr : rightB f u v a b 7 c n = true) (w : World) (hT : Tab w) :
 Calls Tryz.prog 38 #[.agg cs, ins f u v a b 7 c n, .int .u32 l] w fun e w' => e = .returned (.tuple #[.agg (fin (c21 cs) a (bits .xor .u32 (rgV cs b) (opX cs f v c n))), .int .i64 0, .bool false]) ∧ Below w.heap.size w w' := by
 have hn := reck_n (hf) hr
 have hn0 := hn.1
 have hn1 := hn.2
 clear hn
 have ha : a ≤ 15 := by have := (right_inv hr).1; omega
 have hbb : b ≤ 15 := by have := (right_inv hr).2.1; omega
 have hcc : c ≤ 15 := by have := (right_inv hr).2.2.1; omega
 obtain ⟨hrc, hrc0, hrc1⟩ := hc.rg (k := c) (by omega)
 obtain ⟨hrb, hrb0, hrb1⟩ := hc.rg (k := b) (by omega)
 obtain ⟨hX0, hX1⟩ := opX_bd hc f v hcc hn0 hn1
 have hot := or_top n hn0 hn1
 have HRC := hid hrc
 have HRB := hid hrb
 clear hrc hrb
 have hf2 : (f == 2) = false := by simp; omega
 have hf3 : (f == 3) = false := by simp; omega
 have HT := tabHid hT
 clear hT
 obtain ⟨hpc, hp0, hp1⟩ := hc.pcV
 have HC := hid hc
 have HPC := hid hpc
 clear hc hpc
 unfold ins
 go_enter Tryz.func38, Tryz.ntmps38
 go_upto_region 3 with (go_at_call 53; refine (right_any _ _ _ _ _ _ _ _ _ (HT.out _ (by go_grown))).mono ?_; rintro e w1 ⟨rfl, hb1⟩; obtain ⟨h0, h1, h2, hs, hB⟩ := three hb1; clear hb1)
 have hl := load_cpu h0 HC.out.size
 have hst := store_new0 (w := w1) (t := 50) HC.out.size HC.out.one
 have h21 : w1.cell? ⟨w.heap.size, 21, none⟩ = some (.int .u32 (rgV cs 21)) := (h0.cell 21).trans HPC.out
 have key := exec_head h0 h1 h2 hs hB (.int .u32 ((rgV cs 21 + 4) % 4294967296))
 have hA := ((h0.old (.cells cs 50)).cell 21).trans HPC.out
 have hF := (h0.old (.cells cs 50)).frozen 21
 have H0 := hid h0
 have H1 := hid h1
 have HK := hid key
 clear h0 h1 h2 hB key
 go_upto_region 7 with fail
 clear hl hst h21 hA hF H0 H1
 obtain ⟨k0, k1, k2, k3, kB⟩ := HK.out
 clear HK
 generalize (w1.alloc (.cells cs 50)).setCell ⟨w.heap.size, 21, none⟩ (.int .u32 ((rgV cs 21 + 4) % 4294967296)) = W at k0 k1 k2 k3 kB ⊢
 have kT := HT.out W kB
 clear HT
 have k0 : Blk W w.heap.size (c21 cs) 50 := k0
 have i0 : W.cell? ⟨w.heap.size + 1, 0, none⟩ = some (.int .i64 f) := k1.cell 0
 have i1 : W.cell? ⟨w.heap.size + 1, 1, none⟩ = some (.bool u) := k1.cell 1
 have i2 : W.cell? ⟨w.heap.size + 1, 2, none⟩ = some (.bool v) := k1.cell 2
 have i3 : W.cell? ⟨w.heap.size + 1, 3, none⟩ = some (.int .i64 a) := k1.cell 3
 have i4 : W.cell? ⟨w.heap.size + 1, 4, none⟩ = some (.int .i64 b) := k1.cell 4
 have i5 : W.cell? ⟨w.heap.size + 1, 5, none⟩ = some (.int .i64 7) := k1.cell 5
 have i6 : W.cell? ⟨w.heap.size + 1, 6, none⟩ = some (.int .i64 c) := k1.cell 6
 have i7 : W.cell? ⟨w.heap.size + 1, 7, none⟩ = some (.int .i64 n) := k1.cell 7
 have oc := (k3.cell c).trans HRC.out
 have ob := (k3.cell b).trans HRB.out
 have K_k0 := hid k0
 clear k0
 have K_k1 := hid k1
 clear k1
 have K_k2 := hid k2
 clear k2
 have K_k3 := hid k3
 clear k3
 have K_kB := hid kB
 clear kB
 have K_kT := hid kT
 clear kT
 have K_i1 := hid i1
 clear i1
 have K_i3 := hid i3
 clear i3
 have K_i5 := hid i5
 clear i5
 go_upto_if 32 with fail
 go_cut [12] from 33 to 41 (fun s12 wx => s12 = .int .u32 (opX cs f v c n) ∧ W = wx)
 case first =>
  rcases hf with rfl | rfl
  ·go_wp2_with fail
   go_meet
   exact ⟨rfl, rfl⟩
  ·cases v
   ·go_wp2_with fail
    go_meet
    exact ⟨rfl, rfl⟩
   ·go_wp2_with fail
    go_meet
    exact ⟨rfl, rfl⟩
 case rest =>
  obtain ⟨rfl, rfl⟩ := hcut
  clear oc hot i0 i2 i6 i7
  have i1 := K_i1.out
  have i5 := K_i5.out
  go_upto_region 63 with fail
  obtain ⟨⟨xa, ta⟩, ⟨x17, t17⟩, ⟨x18, t18⟩, tf, hl, hst, hres⟩ := tailf K_k0.out K_k2.out (by omega) (by simp [c21, HC.out.size]) rfl (c21_one HC.out.one) a ha
  have hw : Hid (0 ≤ (bits .xor .u32 (rgV cs b) (opX cs f v c n)) ∧ (bits .xor .u32 (rgV cs b) (opX cs f v c n)) < 4294967296) := u32_bits_bd .xor _ _
  have hB := hid K_kB.out
  have i3 : W.cell? ⟨w.heap.size + 1, 3, none⟩ = some (.int .i64 a) := K_k1.out.cell 3
  have K_hres := hid hres
  clear hres
  go_wp2_with fail
  have hres := K_hres.out
  refine bodyPost_ret (v := .tuple #[.agg (finR (c21 cs) a (bits .xor .u32 (rgV cs b) (opX cs f v c n)) ((bits .xor .u32 (rgV cs b) (opX cs f v c n)) / 2147483648 != 0) ((bits .xor .u32 (rgV cs b) (opX cs f v c n)) == 0)), .int .i64 0, .bool false]) ?_ rfl ⟨by rw [finR_fin _ _ _ hw.out.1 hw.out.2]; try rfl, belRow (bel_chain hB.out _ _ _ _) (by omega) _⟩
  simp [results, Tryz.results38, asAddr, hres]
end Go.Proofs.YtgcknekhimpfkaaGreatDoor
