/- Exec of an access to memory. -/
import Derived.Test.YtgcknekhimpfkaaDoorQI
namespace Go.Proofs.YtgcknekhimpfkaaDoor
open Go Go.RowKit Go.Lib Go.Proofs.YtgcknekhimpfkaaDoor.Pl
set_option linter.unusedVariables false
set_option linter.unusedSimpArgs false
attribute [local go_sem ↓] exec_load_cpu exec_store_cpu
def loadW (v : Bool) (l : Int) : Int := if v then l % 256 else l
theorem loadW_bd (v : Bool) (l : Int) (h0 : 0 ≤ l) (h1 : l < 4294967296) : 0 ≤ loadW v l ∧ loadW v l < 4294967296 := by unfold loadW; split <;> omega
theorem and255 (l : Int) (h0 : 0 ≤ l) (h1 : l < 4294967296) : bits .and .u32 l 255 = l % 256 := by
  have := and_low l 8 (by omega)
  rw [show l % 4294967296 = l from by omega] at this
  exact this
set_option maxRecDepth 100000 in
set_option maxHeartbeats 1000000 in
theorem exec_2u (cs : Array Value) (hc : CpuOk cs) (v : Bool) (a b : Nat) (n l : Int) (hr : rightB 2 true v a b 0 0 n = true) (w : World) (hT : Tab w) :
    Calls Tryd.prog 31 #[.agg cs, ins 2 true v a b 0 0 n, .int .u32 l] w fun e w' => e = .returned (.tuple #[.agg (c21 cs), .int .i64 0, .bool false]) ∧ Below w.heap.size w w' := by
  have HT : Hid (∀ W, Below w.heap.size w W → Tab W) := fun W hB => hT.below hB hT.lt
  clear hT
  obtain ⟨hpc, hp0, hp1⟩ := hc.pcV
  have HC := Lib.hid hc
  have HPC := Lib.hid hpc
  clear hc hpc
  unfold ins
  go_enter Tryd.func31, Tryd.ntmps31
  go_upto_region 3 with (go_at_call 43; refine (right_any _ _ _ _ _ _ _ _ _ (HT.out _ (by go_grown))).mono ?_; rintro e w1 ⟨rfl, hb1⟩; obtain ⟨h0, h1, h2, hs, hB⟩ := three hb1; clear hb1)
  have hl := load_cpu h0 HC.out.size
  have hst := store_new (w := w1) (Z := #[.int .u32 0, .int .u32 0, .int .u32 0, .int .u32 0, .int .u32 0, .int .u32 0, .int .u32 0, .int .u32 0, .int .u32 0, .int .u32 0, .int .u32 0, .int .u32 0, .int .u32 0, .int .u32 0, .int .u32 0, .int .u32 0, .int .u32 0, .bool false, .bool false, .bool false, .bool false, .int .u32 0]) (t := 39) rfl HC.out.size HC.out.one
  have h21 : w1.cell? ⟨w.heap.size, 21, none⟩ = some (.int .u32 (rgV cs 21)) := (h0.cell 21).trans HPC.out
  have key := exec_head h0 h1 h2 hs hB (.int .u32 ((rgV cs 21 + 4) % 4294967296))
  have hA := ((h0.old (.cells cs 39)).cell 21).trans HPC.out
  have hF := (h0.old (.cells cs 39)).frozen 21
  have H0 := Lib.hid h0
  have H1 := Lib.hid h1
  have HK := Lib.hid key
  clear h0 h1 h2 hB key
  go_upto_region 7 with fail
  clear hl hst h21 hA hF H0 H1
  obtain ⟨k0, k1, k2, k3, kB⟩ := HK.out
  clear HK
  generalize (w1.alloc (.cells cs 39)).setCell ⟨w.heap.size, 21, none⟩ (.int .u32 ((rgV cs 21 + 4) % 4294967296)) = W at k0 k1 k2 k3 kB ⊢
  have kT := HT.out W kB
  clear HT
  have k0 : Blk W w.heap.size (c21 cs) 39 := k0
  have i0 : W.cell? ⟨w.heap.size + 1, 0, none⟩ = some (.int .i64 2) := k1.cell 0
  have i1 : W.cell? ⟨w.heap.size + 1, 1, none⟩ = some (.bool true) := k1.cell 1
  have i2 : W.cell? ⟨w.heap.size + 1, 2, none⟩ = some (.bool v) := k1.cell 2
  have i3 : W.cell? ⟨w.heap.size + 1, 3, none⟩ = some (.int .i64 a) := k1.cell 3
  have i4 : W.cell? ⟨w.heap.size + 1, 4, none⟩ = some (.int .i64 b) := k1.cell 4
  have i5 : W.cell? ⟨w.heap.size + 1, 5, none⟩ = some (.int .i64 0) := k1.cell 5
  have i6 : W.cell? ⟨w.heap.size + 1, 6, none⟩ = some (.int .i64 0) := k1.cell 6
  have i7 : W.cell? ⟨w.heap.size + 1, 7, none⟩ = some (.int .i64 n) := k1.cell 7
  have hl := load_cpu k0 (c21_size HC.out.size)
  have hst := store_cpu k2 rfl (c21_size HC.out.size) (c21_one HC.out.one)
  have hres := loadVar_cpu (k2.setRow (c21 cs)) (c21_size HC.out.size)
  have K_k0 := Lib.hid k0
  clear k0
  have K_k1 := Lib.hid k1
  clear k1
  have K_k2 := Lib.hid k2
  clear k2
  have K_k3 := Lib.hid k3
  clear k3
  have K_kB := Lib.hid kB
  clear kB
  have K_kT := Lib.hid kT
  clear kT
  have K_hres := Lib.hid hres
  clear hres
  go_wp2_with fail
  have hres := K_hres.out
  refine bodyPost_ret (v := .tuple #[.agg (c21 cs), .int .i64 0, .bool false]) ?_ rfl ⟨rfl, belRow K_kB.out (by omega) _⟩
  simp [results, Tryd.results31, asAddr, hres]
set_option maxRecDepth 100000 in
set_option maxHeartbeats 1000000 in
theorem exec_2t (cs : Array Value) (hc : CpuOk cs) (a b : Nat) (n l : Int) (h0 : 0 ≤ l) (h1 : l < 4294967296) (hr : rightB 2 false true a b 0 0 n = true) (w : World) (hT : Tab w) :
    Calls Tryd.prog 31 #[.agg cs, ins 2 false true a b 0 0 n, .int .u32 l] w fun e w' => e = .returned (.tuple #[.agg (fin (c21 cs) a (loadW true l)), .int .i64 0, .bool false]) ∧ Below w.heap.size w w' := by
  have ha : a ≤ 15 := by have := (right_inv hr).1; omega
  have HT : Hid (∀ W, Below w.heap.size w W → Tab W) := fun W hB => hT.below hB hT.lt
  clear hT
  obtain ⟨hpc, hp0, hp1⟩ := hc.pcV
  have HC := Lib.hid hc
  have HPC := Lib.hid hpc
  clear hc hpc
  unfold ins
  go_enter Tryd.func31, Tryd.ntmps31
  go_upto_region 3 with (go_at_call 43; refine (right_any _ _ _ _ _ _ _ _ _ (HT.out _ (by go_grown))).mono ?_; rintro e w1 ⟨rfl, hb1⟩; obtain ⟨h0, h1, h2, hs, hB⟩ := three hb1; clear hb1)
  have hl := load_cpu h0 HC.out.size
  have hst := store_new (w := w1) (Z := #[.int .u32 0, .int .u32 0, .int .u32 0, .int .u32 0, .int .u32 0, .int .u32 0, .int .u32 0, .int .u32 0, .int .u32 0, .int .u32 0, .int .u32 0, .int .u32 0, .int .u32 0, .int .u32 0, .int .u32 0, .int .u32 0, .int .u32 0, .bool false, .bool false, .bool false, .bool false, .int .u32 0]) (t := 39) rfl HC.out.size HC.out.one
  have h21 : w1.cell? ⟨w.heap.size, 21, none⟩ = some (.int .u32 (rgV cs 21)) := (h0.cell 21).trans HPC.out
  have key := exec_head h0 h1 h2 hs hB (.int .u32 ((rgV cs 21 + 4) % 4294967296))
  have hA := ((h0.old (.cells cs 39)).cell 21).trans HPC.out
  have hF := (h0.old (.cells cs 39)).frozen 21
  have H0 := Lib.hid h0
  have H1 := Lib.hid h1
  have HK := Lib.hid key
  clear h0 h1 h2 hB key
  go_upto_region 7 with fail
  clear hl hst h21 hA hF H0 H1
  obtain ⟨k0, k1, k2, k3, kB⟩ := HK.out
  clear HK
  generalize (w1.alloc (.cells cs 39)).setCell ⟨w.heap.size, 21, none⟩ (.int .u32 ((rgV cs 21 + 4) % 4294967296)) = W at k0 k1 k2 k3 kB ⊢
  have kT := HT.out W kB
  clear HT
  have k0 : Blk W w.heap.size (c21 cs) 39 := k0
  have i0 : W.cell? ⟨w.heap.size + 1, 0, none⟩ = some (.int .i64 2) := k1.cell 0
  have i1 : W.cell? ⟨w.heap.size + 1, 1, none⟩ = some (.bool false) := k1.cell 1
  have i2 : W.cell? ⟨w.heap.size + 1, 2, none⟩ = some (.bool true) := k1.cell 2
  have i3 : W.cell? ⟨w.heap.size + 1, 3, none⟩ = some (.int .i64 a) := k1.cell 3
  have i4 : W.cell? ⟨w.heap.size + 1, 4, none⟩ = some (.int .i64 b) := k1.cell 4
  have i5 : W.cell? ⟨w.heap.size + 1, 5, none⟩ = some (.int .i64 0) := k1.cell 5
  have i6 : W.cell? ⟨w.heap.size + 1, 6, none⟩ = some (.int .i64 0) := k1.cell 6
  have i7 : W.cell? ⟨w.heap.size + 1, 7, none⟩ = some (.int .i64 n) := k1.cell 7
  obtain ⟨⟨xa, ta⟩, ⟨x17, t17⟩, ⟨x18, t18⟩, tf, hl, hst, hres⟩ := tailf k0 k2 (by omega) (c21_size HC.out.size) rfl (c21_one HC.out.one) a ha
  have K_k0 := Lib.hid k0
  clear k0
  have K_k1 := Lib.hid k1
  clear k1
  have K_k2 := Lib.hid k2
  clear k2
  have K_k3 := Lib.hid k3
  clear k3
  have K_kB := Lib.hid kB
  clear kB
  have K_kT := Lib.hid kT
  clear kT
  have K_hres := Lib.hid hres
  clear hres
  have h255 := and255 l h0 h1
  go_wp2_with fail
  have hres := K_hres.out
  refine bodyPost_ret (v := .tuple #[.agg (finR (c21 cs) a (l % 256) ((l % 256) / 2147483648 != 0) ((l % 256) == 0)), .int .i64 0, .bool false]) ?_ rfl ⟨by rw [finR_fin _ _ _ (by omega) (by omega)]; rfl, belRow (bel_chain K_kB.out _ _ _ _) (by omega) _⟩
  simp [results, Tryd.results31, asAddr, hres]
set_option maxRecDepth 100000 in
set_option maxHeartbeats 1000000 in
theorem exec_2f (cs : Array Value) (hc : CpuOk cs) (a b : Nat) (n l : Int) (h0 : 0 ≤ l) (h1 : l < 4294967296) (hr : rightB 2 false false a b 0 0 n = true) (w : World) (hT : Tab w) :
    Calls Tryd.prog 31 #[.agg cs, ins 2 false false a b 0 0 n, .int .u32 l] w fun e w' => e = .returned (.tuple #[.agg (fin (c21 cs) a (loadW false l)), .int .i64 0, .bool false]) ∧ Below w.heap.size w w' := by
  have ha : a ≤ 15 := by have := (right_inv hr).1; omega
  have HT : Hid (∀ W, Below w.heap.size w W → Tab W) := fun W hB => hT.below hB hT.lt
  clear hT
  obtain ⟨hpc, hp0, hp1⟩ := hc.pcV
  have HC := Lib.hid hc
  have HPC := Lib.hid hpc
  clear hc hpc
  unfold ins
  go_enter Tryd.func31, Tryd.ntmps31
  go_upto_region 3 with (go_at_call 43; refine (right_any _ _ _ _ _ _ _ _ _ (HT.out _ (by go_grown))).mono ?_; rintro e w1 ⟨rfl, hb1⟩; obtain ⟨h0, h1, h2, hs, hB⟩ := three hb1; clear hb1)
  have hl := load_cpu h0 HC.out.size
  have hst := store_new (w := w1) (Z := #[.int .u32 0, .int .u32 0, .int .u32 0, .int .u32 0, .int .u32 0, .int .u32 0, .int .u32 0, .int .u32 0, .int .u32 0, .int .u32 0, .int .u32 0, .int .u32 0, .int .u32 0, .int .u32 0, .int .u32 0, .int .u32 0, .int .u32 0, .bool false, .bool false, .bool false, .bool false, .int .u32 0]) (t := 39) rfl HC.out.size HC.out.one
  have h21 : w1.cell? ⟨w.heap.size, 21, none⟩ = some (.int .u32 (rgV cs 21)) := (h0.cell 21).trans HPC.out
  have key := exec_head h0 h1 h2 hs hB (.int .u32 ((rgV cs 21 + 4) % 4294967296))
  have hA := ((h0.old (.cells cs 39)).cell 21).trans HPC.out
  have hF := (h0.old (.cells cs 39)).frozen 21
  have H0 := Lib.hid h0
  have H1 := Lib.hid h1
  have HK := Lib.hid key
  clear h0 h1 h2 hB key
  go_upto_region 7 with fail
  clear hl hst h21 hA hF H0 H1
  obtain ⟨k0, k1, k2, k3, kB⟩ := HK.out
  clear HK
  generalize (w1.alloc (.cells cs 39)).setCell ⟨w.heap.size, 21, none⟩ (.int .u32 ((rgV cs 21 + 4) % 4294967296)) = W at k0 k1 k2 k3 kB ⊢
  have kT := HT.out W kB
  clear HT
  have k0 : Blk W w.heap.size (c21 cs) 39 := k0
  have i0 : W.cell? ⟨w.heap.size + 1, 0, none⟩ = some (.int .i64 2) := k1.cell 0
  have i1 : W.cell? ⟨w.heap.size + 1, 1, none⟩ = some (.bool false) := k1.cell 1
  have i2 : W.cell? ⟨w.heap.size + 1, 2, none⟩ = some (.bool false) := k1.cell 2
  have i3 : W.cell? ⟨w.heap.size + 1, 3, none⟩ = some (.int .i64 a) := k1.cell 3
  have i4 : W.cell? ⟨w.heap.size + 1, 4, none⟩ = some (.int .i64 b) := k1.cell 4
  have i5 : W.cell? ⟨w.heap.size + 1, 5, none⟩ = some (.int .i64 0) := k1.cell 5
  have i6 : W.cell? ⟨w.heap.size + 1, 6, none⟩ = some (.int .i64 0) := k1.cell 6
  have i7 : W.cell? ⟨w.heap.size + 1, 7, none⟩ = some (.int .i64 n) := k1.cell 7
  obtain ⟨⟨xa, ta⟩, ⟨x17, t17⟩, ⟨x18, t18⟩, tf, hl, hst, hres⟩ := tailf k0 k2 (by omega) (c21_size HC.out.size) rfl (c21_one HC.out.one) a ha
  have K_k0 := Lib.hid k0
  clear k0
  have K_k1 := Lib.hid k1
  clear k1
  have K_k2 := Lib.hid k2
  clear k2
  have K_k3 := Lib.hid k3
  clear k3
  have K_kB := Lib.hid kB
  clear kB
  have K_kT := Lib.hid kT
  clear kT
  have K_hres := Lib.hid hres
  clear hres
  go_wp2_with fail
  have hres := K_hres.out
  refine bodyPost_ret (v := .tuple #[.agg (finR (c21 cs) a (l) ((l) / 2147483648 != 0) ((l) == 0)), .int .i64 0, .bool false]) ?_ rfl ⟨by rw [finR_fin _ _ _ (by omega) (by omega)]; rfl, belRow (bel_chain K_kB.out _ _ _ _) (by omega) _⟩
  simp [results, Tryd.results31, asAddr, hres]
end Go.Proofs.YtgcknekhimpfkaaDoor
