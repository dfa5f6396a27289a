/- Exec of a branch. -/
import Derived.Test.YtgcknekhimpfkaaDoorQI
namespace Go.Proofs.YtgcknekhimpfkaaDoor
open Go Go.RowKit Go.Lib Go.Proofs.YtgcknekhimpfkaaDoor.Pl
set_option linter.unusedVariables false
set_option linter.unusedSimpArgs false
attribute [local go_sem ↓] exec_load_cpu exec_store_cpu
theorem blk_twice {w : World} {g i : Nat} {cs : Array Value} {x y : Value} {t : TypeId} (h : Blk w g ((cs.setIfInBounds i x).setIfInBounds i y) t) : Blk w g (cs.setIfInBounds i y) t := by rwa [Array.setIfInBounds_setIfInBounds] at h
def goTo (cs : Array Value) (n : Int) : Int := (rgV cs 21 + 4 + n % 4294967296 * 4) % 4294967296
set_option maxRecDepth 100000 in
set_option maxHeartbeats 1000000 in
theorem exec_3n (cs : Array Value) (hc : CpuOk cs) (u v : Bool) (a c : Nat) (n l : Int) (hH : holdsV (flV cs 17) (flV cs 18) (flV cs 19) (flV cs 20) a = false) (hr : rightB 3 u v a 0 0 c n = true) (w : World) (hT : Tab w) :
    Calls Tryd.prog 31 #[.agg cs, ins 3 u v a 0 0 c n, .int .u32 l] w fun e w' => e = .returned (.tuple #[.agg (c21 cs), .int .i64 0, .bool false]) ∧ Below w.heap.size w w' := by
  have hF : FlagsAre cs (flV cs 17) (flV cs 18) (flV cs 19) (flV cs 20) := ⟨hc.nV, hc.zV, hc.cV, hc.vV⟩
  have HF := Lib.hid hF
  clear hF
  have hcc : c ≤ 15 := by have := (right_inv hr).2.2.1; omega
  obtain ⟨hrc, hrc0, hrc1⟩ := hc.rg (k := c) (by omega)
  have HRC := Lib.hid hrc
  clear hrc
  have HT : Hid (∀ W, Below w.heap.size w W → Tab W) := fun W hB => hT.below hB hT.lt
  clear hT
  obtain ⟨hpc, hp0, hp1⟩ := hc.pcV
  have HC := Lib.hid hc
  have HPC := Lib.hid hpc
  clear hc hpc
  unfold ins
  go_enter Tryd.func31, Tryd.ntmps31
  go_upto_region 3 with (go_at_call 43; refine (right_any _ _ _ _ _ _ _ _ _ (HT.out _ (by go_grown))).mono ?_; rintro e w1 ⟨rfl, hb1⟩; obtain ⟨h0, h1, h2, hs, hB⟩ := three hb1; clear hb1)
  have hl := load_cpu h0 HC.out.size
  have hst := store_new (w := w1) (Z := #[.int .u32 0, .int .u32 0, .int .u32 0, .int .u32 0, .int .u32 0, .int .u32 0, .int .u32 0, .int .u32 0, .int .u32 0, .int .u32 0, .int .u32 0, .int .u32 0, .int .u32 0, .int .u32 0, .int .u32 0, .int .u32 0, .int .u32 0, .bool false, .bool false, .bool false, .bool false, .int .u32 0]) (t := 39) rfl HC.out.size HC.out.one
  have h21 : w1.cell? ⟨w.heap.size, 21, none⟩ = some (.int .u32 (rgV cs 21)) := (h0.cell 21).trans HPC.out
  have key := exec_head h0 h1 h2 hs hB (.int .u32 ((rgV cs 21 + 4) % 4294967296))
  have hA := ((h0.old (.cells cs 39)).cell 21).trans HPC.out
  have hF := (h0.old (.cells cs 39)).frozen 21
  have H0 := Lib.hid h0
  have H1 := Lib.hid h1
  have HK := Lib.hid key
  clear h0 h1 h2 hB key
  go_upto_region 7 with fail
  clear hl hst h21 hA hF H0 H1
  obtain ⟨k0, k1, k2, k3, kB⟩ := HK.out
  clear HK
  generalize (w1.alloc (.cells cs 39)).setCell ⟨w.heap.size, 21, none⟩ (.int .u32 ((rgV cs 21 + 4) % 4294967296)) = W at k0 k1 k2 k3 kB ⊢
  have kT := HT.out W kB
  clear HT
  have k0 : Blk W w.heap.size (c21 cs) 39 := k0
  have i0 : W.cell? ⟨w.heap.size + 1, 0, none⟩ = some (.int .i64 3) := k1.cell 0
  have i1 : W.cell? ⟨w.heap.size + 1, 1, none⟩ = some (.bool u) := k1.cell 1
  have i2 : W.cell? ⟨w.heap.size + 1, 2, none⟩ = some (.bool v) := k1.cell 2
  have i3 : W.cell? ⟨w.heap.size + 1, 3, none⟩ = some (.int .i64 a) := k1.cell 3
  have i4 : W.cell? ⟨w.heap.size + 1, 4, none⟩ = some (.int .i64 0) := k1.cell 4
  have i5 : W.cell? ⟨w.heap.size + 1, 5, none⟩ = some (.int .i64 0) := k1.cell 5
  have i6 : W.cell? ⟨w.heap.size + 1, 6, none⟩ = some (.int .i64 c) := k1.cell 6
  have i7 : W.cell? ⟨w.heap.size + 1, 7, none⟩ = some (.int .i64 n) := k1.cell 7
  have hlo := load_cpu k3 HC.out.size
  have K_k0 := Lib.hid k0
  clear k0
  have K_k1 := Lib.hid k1
  clear k1
  have K_k2 := Lib.hid k2
  clear k2
  have K_k3 := Lib.hid k3
  clear k3
  have K_kB := Lib.hid kB
  clear kB
  have K_kT := Lib.hid kT
  clear kT
  have K_i1 := Lib.hid i1
  clear i1
  have K_i2 := Lib.hid i2
  clear i2
  have K_i6 := Lib.hid i6
  clear i6
  have K_i7 := Lib.hid i7
  clear i7
  go_upto_region 62 with (go_at_call 46; refine (holds_any cs _ _ _ _ HF.out _ _).mono ?_; rintro e w2 ⟨rfl, hb2⟩; clear hlo i0 i3 i4 i5; have j1 : w2.cell? ⟨w.heap.size + 1, 1, none⟩ = some (.bool u) := (K_k1.out.step hb2).cell 1; have j2 : w2.cell? ⟨w.heap.size + 1, 2, none⟩ = some (.bool v) := (K_k1.out.step hb2).cell 2; have j6 : w2.cell? ⟨w.heap.size + 1, 6, none⟩ = some (.int .i64 c) := (K_k1.out.step hb2).cell 6; have j7 : w2.cell? ⟨w.heap.size + 1, 7, none⟩ = some (.int .i64 n) := (K_k1.out.step hb2).cell 7; obtain ⟨x21, q21⟩ := at_some (n := 22) (k := 21) (c21_size HC.out.size) (by omega); have c21' := ((K_k0.out.step hb2).cell 21).trans q21; obtain ⟨x15, q15⟩ := at_some (n := 22) (k := 15) (c21_size HC.out.size) (by omega); have c15' := ((K_k0.out.step hb2).cell 15).trans q15; have cf := fun o => (K_k0.out.step hb2).frozen o; have cr := ((K_k3.out.step hb2).cell c).trans HRC.out; have Hb2 := Lib.hid hb2; clear q21 q15 hb2)
  have HLE : w.heap.size ≤ W.heap.size := K_kB.out.size
  have hl := load_cpu (K_k0.out.step Hb2.out) (by simp [c21, HC.out.size])
  have hst := store_cpu (K_k2.out.step Hb2.out) rfl (cs := (c21 cs)) (by simp [c21, HC.out.size]) (c21_one HC.out.one)
  have hres := loadVar_cpu (Blk.setRow (K_k2.out.step Hb2.out) (c21 cs)) (by simp [c21, HC.out.size])
  have HB := Lib.hid (belRow (K_kB.out.trans (Hb2.out.mono HLE)) (g := w.heap.size + 1 + 1) (by omega) (c21 cs))
  have K_hres := Lib.hid hres
  clear hres
  go_wp2_with fail
  have hres := K_hres.out
  refine bodyPost_ret (v := .tuple #[.agg (c21 cs), .int .i64 0, .bool false]) ?_ rfl ⟨rfl, HB.out⟩
  simp [results, Tryd.results31, asAddr, hres]
set_option maxRecDepth 100000 in
set_option maxHeartbeats 1000000 in
theorem exec_3ytt (cs : Array Value) (hc : CpuOk cs) (a c : Nat) (n l : Int) (hH : holdsV (flV cs 17) (flV cs 18) (flV cs 19) (flV cs 20) a = true) (hr : rightB 3 true true a 0 0 c n = true) (w : World) (hT : Tab w) :
    Calls Tryd.prog 31 #[.agg cs, ins 3 true true a 0 0 c n, .int .u32 l] w fun e w' => e = .returned (.tuple #[.agg (((c21 cs).setIfInBounds 21 (.int .u32 (goTo cs n))).setIfInBounds 15 (.int .u32 (nextV cs))), .int .i64 0, .bool false]) ∧ Below w.heap.size w w' := by
  have hF : FlagsAre cs (flV cs 17) (flV cs 18) (flV cs 19) (flV cs 20) := ⟨hc.nV, hc.zV, hc.cV, hc.vV⟩
  have HF := Lib.hid hF
  clear hF
  have hcc : c ≤ 15 := by have := (right_inv hr).2.2.1; omega
  obtain ⟨hrc, hrc0, hrc1⟩ := hc.rg (k := c) (by omega)
  have HRC := Lib.hid hrc
  clear hrc
  have HT : Hid (∀ W, Below w.heap.size w W → Tab W) := fun W hB => hT.below hB hT.lt
  clear hT
  obtain ⟨hpc, hp0, hp1⟩ := hc.pcV
  have HC := Lib.hid hc
  have HPC := Lib.hid hpc
  clear hc hpc
  unfold ins
  go_enter Tryd.func31, Tryd.ntmps31
  go_upto_region 3 with (go_at_call 43; refine (right_any _ _ _ _ _ _ _ _ _ (HT.out _ (by go_grown))).mono ?_; rintro e w1 ⟨rfl, hb1⟩; obtain ⟨h0, h1, h2, hs, hB⟩ := three hb1; clear hb1)
  have hl := load_cpu h0 HC.out.size
  have hst := store_new (w := w1) (Z := #[.int .u32 0, .int .u32 0, .int .u32 0, .int .u32 0, .int .u32 0, .int .u32 0, .int .u32 0, .int .u32 0, .int .u32 0, .int .u32 0, .int .u32 0, .int .u32 0, .int .u32 0, .int .u32 0, .int .u32 0, .int .u32 0, .int .u32 0, .bool false, .bool false, .bool false, .bool false, .int .u32 0]) (t := 39) rfl HC.out.size HC.out.one
  have h21 : w1.cell? ⟨w.heap.size, 21, none⟩ = some (.int .u32 (rgV cs 21)) := (h0.cell 21).trans HPC.out
  have key := exec_head h0 h1 h2 hs hB (.int .u32 ((rgV cs 21 + 4) % 4294967296))
  have hA := ((h0.old (.cells cs 39)).cell 21).trans HPC.out
  have hF := (h0.old (.cells cs 39)).frozen 21
  have H0 := Lib.hid h0
  have H1 := Lib.hid h1
  have HK := Lib.hid key
  clear h0 h1 h2 hB key
  go_upto_region 7 with fail
  clear hl hst h21 hA hF H0 H1
  obtain ⟨k0, k1, k2, k3, kB⟩ := HK.out
  clear HK
  generalize (w1.alloc (.cells cs 39)).setCell ⟨w.heap.size, 21, none⟩ (.int .u32 ((rgV cs 21 + 4) % 4294967296)) = W at k0 k1 k2 k3 kB ⊢
  have kT := HT.out W kB
  clear HT
  have k0 : Blk W w.heap.size (c21 cs) 39 := k0
  have i0 : W.cell? ⟨w.heap.size + 1, 0, none⟩ = some (.int .i64 3) := k1.cell 0
  have i1 : W.cell? ⟨w.heap.size + 1, 1, none⟩ = some (.bool true) := k1.cell 1
  have i2 : W.cell? ⟨w.heap.size + 1, 2, none⟩ = some (.bool true) := k1.cell 2
  have i3 : W.cell? ⟨w.heap.size + 1, 3, none⟩ = some (.int .i64 a) := k1.cell 3
  have i4 : W.cell? ⟨w.heap.size + 1, 4, none⟩ = some (.int .i64 0) := k1.cell 4
  have i5 : W.cell? ⟨w.heap.size + 1, 5, none⟩ = some (.int .i64 0) := k1.cell 5
  have i6 : W.cell? ⟨w.heap.size + 1, 6, none⟩ = some (.int .i64 c) := k1.cell 6
  have i7 : W.cell? ⟨w.heap.size + 1, 7, none⟩ = some (.int .i64 n) := k1.cell 7
  have hlo := load_cpu k3 HC.out.size
  have K_k0 := Lib.hid k0
  clear k0
  have K_k1 := Lib.hid k1
  clear k1
  have K_k2 := Lib.hid k2
  clear k2
  have K_k3 := Lib.hid k3
  clear k3
  have K_kB := Lib.hid kB
  clear kB
  have K_kT := Lib.hid kT
  clear kT
  have K_i1 := Lib.hid i1
  clear i1
  have K_i2 := Lib.hid i2
  clear i2
  have K_i6 := Lib.hid i6
  clear i6
  have K_i7 := Lib.hid i7
  clear i7
  go_upto_region 62 with (go_at_call 46; refine (holds_any cs _ _ _ _ HF.out _ _).mono ?_; rintro e w2 ⟨rfl, hb2⟩; clear hlo i0 i3 i4 i5; have j1 : w2.cell? ⟨w.heap.size + 1, 1, none⟩ = some (.bool true) := (K_k1.out.step hb2).cell 1; have j2 : w2.cell? ⟨w.heap.size + 1, 2, none⟩ = some (.bool true) := (K_k1.out.step hb2).cell 2; have j6 : w2.cell? ⟨w.heap.size + 1, 6, none⟩ = some (.int .i64 c) := (K_k1.out.step hb2).cell 6; have j7 : w2.cell? ⟨w.heap.size + 1, 7, none⟩ = some (.int .i64 n) := (K_k1.out.step hb2).cell 7; obtain ⟨x21, q21⟩ := at_some (n := 22) (k := 21) (c21_size HC.out.size) (by omega); have c21' := ((K_k0.out.step hb2).cell 21).trans q21; obtain ⟨x15, q15⟩ := at_some (n := 22) (k := 15) (c21_size HC.out.size) (by omega); have c15' := ((K_k0.out.step hb2).cell 15).trans q15; have cf := fun o => (K_k0.out.step hb2).frozen o; have cr := ((K_k3.out.step hb2).cell c).trans HRC.out; have Hb2 := Lib.hid hb2; clear q21 q15 hb2)
  have HLE : w.heap.size ≤ W.heap.size := K_kB.out.size
  have hl := load_cpu ((blk_twice (((K_k0.out.step Hb2.out).set 21 (.int .u32 (rgV cs c))).set 21 (.int .u32 ((rgV cs 21 + 4 + n % 4294967296 * 4) % 4294967296)))).set 15 (.int .u32 ((rgV cs 21 + 4) % 4294967296))) (by simp [c21, HC.out.size])
  have hst := store_cpu ((((K_k2.out.step Hb2.out).far (by simp; omega) (p := ⟨w.heap.size, 21, none⟩) (.int .u32 (rgV cs c))).far (by simp; omega) (p := ⟨w.heap.size, 21, none⟩) (.int .u32 ((rgV cs 21 + 4 + n % 4294967296 * 4) % 4294967296))).far (by simp; omega) (p := ⟨w.heap.size, 15, none⟩) (.int .u32 ((rgV cs 21 + 4) % 4294967296))) rfl (cs := (((c21 cs).setIfInBounds 21 (.int .u32 ((rgV cs 21 + 4 + n % 4294967296 * 4) % 4294967296))).setIfInBounds 15 (.int .u32 ((rgV cs 21 + 4) % 4294967296)))) (by simp [c21, HC.out.size]) (OneRow.set (OneRow.set (c21_one HC.out.one) 21 (v := .int .u32 ((rgV cs 21 + 4 + n % 4294967296 * 4) % 4294967296)) rfl) 15 (v := .int .u32 ((rgV cs 21 + 4) % 4294967296)) rfl)
  have hres := loadVar_cpu (Blk.setRow ((((K_k2.out.step Hb2.out).far (by simp; omega) (p := ⟨w.heap.size, 21, none⟩) (.int .u32 (rgV cs c))).far (by simp; omega) (p := ⟨w.heap.size, 21, none⟩) (.int .u32 ((rgV cs 21 + 4 + n % 4294967296 * 4) % 4294967296))).far (by simp; omega) (p := ⟨w.heap.size, 15, none⟩) (.int .u32 ((rgV cs 21 + 4) % 4294967296))) (((c21 cs).setIfInBounds 21 (.int .u32 ((rgV cs 21 + 4 + n % 4294967296 * 4) % 4294967296))).setIfInBounds 15 (.int .u32 ((rgV cs 21 + 4) % 4294967296)))) (by simp [c21, HC.out.size])
  have HB := Lib.hid (belRow ((((K_kB.out.trans (Hb2.out.mono HLE)).setCell (p := ⟨w.heap.size, 21, none⟩) (Nat.le_refl _) (.int .u32 (rgV cs c))).setCell (p := ⟨w.heap.size, 21, none⟩) (Nat.le_refl _) (.int .u32 ((rgV cs 21 + 4 + n % 4294967296 * 4) % 4294967296))).setCell (p := ⟨w.heap.size, 15, none⟩) (Nat.le_refl _) (.int .u32 ((rgV cs 21 + 4) % 4294967296))) (g := w.heap.size + 1 + 1) (by omega) (((c21 cs).setIfInBounds 21 (.int .u32 ((rgV cs 21 + 4 + n % 4294967296 * 4) % 4294967296))).setIfInBounds 15 (.int .u32 ((rgV cs 21 + 4) % 4294967296))))
  have K_hres := Lib.hid hres
  clear hres
  go_wp2_with fail
  have hres := K_hres.out
  refine bodyPost_ret (v := .tuple #[.agg (((c21 cs).setIfInBounds 21 (.int .u32 ((rgV cs 21 + 4 + n % 4294967296 * 4) % 4294967296))).setIfInBounds 15 (.int .u32 ((rgV cs 21 + 4) % 4294967296))), .int .i64 0, .bool false]) ?_ rfl ⟨rfl, HB.out⟩
  simp [results, Tryd.results31, asAddr, hres]
set_option maxRecDepth 100000 in
set_option maxHeartbeats 1000000 in
theorem exec_3ytf (cs : Array Value) (hc : CpuOk cs) (a c : Nat) (n l : Int) (hH : holdsV (flV cs 17) (flV cs 18) (flV cs 19) (flV cs 20) a = true) (hr : rightB 3 true false a 0 0 c n = true) (w : World) (hT : Tab w) :
    Calls Tryd.prog 31 #[.agg cs, ins 3 true false a 0 0 c n, .int .u32 l] w fun e w' => e = .returned (.tuple #[.agg ((c21 cs).setIfInBounds 21 (.int .u32 (goTo cs n))), .int .i64 0, .bool false]) ∧ Below w.heap.size w w' := by
  have hF : FlagsAre cs (flV cs 17) (flV cs 18) (flV cs 19) (flV cs 20) := ⟨hc.nV, hc.zV, hc.cV, hc.vV⟩
  have HF := Lib.hid hF
  clear hF
  have hcc : c ≤ 15 := by have := (right_inv hr).2.2.1; omega
  obtain ⟨hrc, hrc0, hrc1⟩ := hc.rg (k := c) (by omega)
  have HRC := Lib.hid hrc
  clear hrc
  have HT : Hid (∀ W, Below w.heap.size w W → Tab W) := fun W hB => hT.below hB hT.lt
  clear hT
  obtain ⟨hpc, hp0, hp1⟩ := hc.pcV
  have HC := Lib.hid hc
  have HPC := Lib.hid hpc
  clear hc hpc
  unfold ins
  go_enter Tryd.func31, Tryd.ntmps31
  go_upto_region 3 with (go_at_call 43; refine (right_any _ _ _ _ _ _ _ _ _ (HT.out _ (by go_grown))).mono ?_; rintro e w1 ⟨rfl, hb1⟩; obtain ⟨h0, h1, h2, hs, hB⟩ := three hb1; clear hb1)
  have hl := load_cpu h0 HC.out.size
  have hst := store_new (w := w1) (Z := #[.int .u32 0, .int .u32 0, .int .u32 0, .int .u32 0, .int .u32 0, .int .u32 0, .int .u32 0, .int .u32 0, .int .u32 0, .int .u32 0, .int .u32 0, .int .u32 0, .int .u32 0, .int .u32 0, .int .u32 0, .int .u32 0, .int .u32 0, .bool false, .bool false, .bool false, .bool false, .int .u32 0]) (t := 39) rfl HC.out.size HC.out.one
  have h21 : w1.cell? ⟨w.heap.size, 21, none⟩ = some (.int .u32 (rgV cs 21)) := (h0.cell 21).trans HPC.out
  have key := exec_head h0 h1 h2 hs hB (.int .u32 ((rgV cs 21 + 4) % 4294967296))
  have hA := ((h0.old (.cells cs 39)).cell 21).trans HPC.out
  have hF := (h0.old (.cells cs 39)).frozen 21
  have H0 := Lib.hid h0
  have H1 := Lib.hid h1
  have HK := Lib.hid key
  clear h0 h1 h2 hB key
  go_upto_region 7 with fail
  clear hl hst h21 hA hF H0 H1
  obtain ⟨k0, k1, k2, k3, kB⟩ := HK.out
  clear HK
  generalize (w1.alloc (.cells cs 39)).setCell ⟨w.heap.size, 21, none⟩ (.int .u32 ((rgV cs 21 + 4) % 4294967296)) = W at k0 k1 k2 k3 kB ⊢
  have kT := HT.out W kB
  clear HT
  have k0 : Blk W w.heap.size (c21 cs) 39 := k0
  have i0 : W.cell? ⟨w.heap.size + 1, 0, none⟩ = some (.int .i64 3) := k1.cell 0
  have i1 : W.cell? ⟨w.heap.size + 1, 1, none⟩ = some (.bool true) := k1.cell 1
  have i2 : W.cell? ⟨w.heap.size + 1, 2, none⟩ = some (.bool false) := k1.cell 2
  have i3 : W.cell? ⟨w.heap.size + 1, 3, none⟩ = some (.int .i64 a) := k1.cell 3
  have i4 : W.cell? ⟨w.heap.size + 1, 4, none⟩ = some (.int .i64 0) := k1.cell 4
  have i5 : W.cell? ⟨w.heap.size + 1, 5, none⟩ = some (.int .i64 0) := k1.cell 5
  have i6 : W.cell? ⟨w.heap.size + 1, 6, none⟩ = some (.int .i64 c) := k1.cell 6
  have i7 : W.cell? ⟨w.heap.size + 1, 7, none⟩ = some (.int .i64 n) := k1.cell 7
  have hlo := load_cpu k3 HC.out.size
  have K_k0 := Lib.hid k0
  clear k0
  have K_k1 := Lib.hid k1
  clear k1
  have K_k2 := Lib.hid k2
  clear k2
  have K_k3 := Lib.hid k3
  clear k3
  have K_kB := Lib.hid kB
  clear kB
  have K_kT := Lib.hid kT
  clear kT
  have K_i1 := Lib.hid i1
  clear i1
  have K_i2 := Lib.hid i2
  clear i2
  have K_i6 := Lib.hid i6
  clear i6
  have K_i7 := Lib.hid i7
  clear i7
  go_upto_region 62 with (go_at_call 46; refine (holds_any cs _ _ _ _ HF.out _ _).mono ?_; rintro e w2 ⟨rfl, hb2⟩; clear hlo i0 i3 i4 i5; have j1 : w2.cell? ⟨w.heap.size + 1, 1, none⟩ = some (.bool true) := (K_k1.out.step hb2).cell 1; have j2 : w2.cell? ⟨w.heap.size + 1, 2, none⟩ = some (.bool false) := (K_k1.out.step hb2).cell 2; have j6 : w2.cell? ⟨w.heap.size + 1, 6, none⟩ = some (.int .i64 c) := (K_k1.out.step hb2).cell 6; have j7 : w2.cell? ⟨w.heap.size + 1, 7, none⟩ = some (.int .i64 n) := (K_k1.out.step hb2).cell 7; obtain ⟨x21, q21⟩ := at_some (n := 22) (k := 21) (c21_size HC.out.size) (by omega); have c21' := ((K_k0.out.step hb2).cell 21).trans q21; obtain ⟨x15, q15⟩ := at_some (n := 22) (k := 15) (c21_size HC.out.size) (by omega); have c15' := ((K_k0.out.step hb2).cell 15).trans q15; have cf := fun o => (K_k0.out.step hb2).frozen o; have cr := ((K_k3.out.step hb2).cell c).trans HRC.out; have Hb2 := Lib.hid hb2; clear q21 q15 hb2)
  have HLE : w.heap.size ≤ W.heap.size := K_kB.out.size
  have hl := load_cpu (blk_twice (((K_k0.out.step Hb2.out).set 21 (.int .u32 (rgV cs c))).set 21 (.int .u32 ((rgV cs 21 + 4 + n % 4294967296 * 4) % 4294967296)))) (by simp [c21, HC.out.size])
  have hst := store_cpu (((K_k2.out.step Hb2.out).far (by simp; omega) (p := ⟨w.heap.size, 21, none⟩) (.int .u32 (rgV cs c))).far (by simp; omega) (p := ⟨w.heap.size, 21, none⟩) (.int .u32 ((rgV cs 21 + 4 + n % 4294967296 * 4) % 4294967296))) rfl (cs := ((c21 cs).setIfInBounds 21 (.int .u32 ((rgV cs 21 + 4 + n % 4294967296 * 4) % 4294967296)))) (by simp [c21, HC.out.size]) (OneRow.set (c21_one HC.out.one) 21 (v := .int .u32 ((rgV cs 21 + 4 + n % 4294967296 * 4) % 4294967296)) rfl)
  have hres := loadVar_cpu (Blk.setRow (((K_k2.out.step Hb2.out).far (by simp; omega) (p := ⟨w.heap.size, 21, none⟩) (.int .u32 (rgV cs c))).far (by simp; omega) (p := ⟨w.heap.size, 21, none⟩) (.int .u32 ((rgV cs 21 + 4 + n % 4294967296 * 4) % 4294967296))) ((c21 cs).setIfInBounds 21 (.int .u32 ((rgV cs 21 + 4 + n % 4294967296 * 4) % 4294967296)))) (by simp [c21, HC.out.size])
  have HB := Lib.hid (belRow (((K_kB.out.trans (Hb2.out.mono HLE)).setCell (p := ⟨w.heap.size, 21, none⟩) (Nat.le_refl _) (.int .u32 (rgV cs c))).setCell (p := ⟨w.heap.size, 21, none⟩) (Nat.le_refl _) (.int .u32 ((rgV cs 21 + 4 + n % 4294967296 * 4) % 4294967296))) (g := w.heap.size + 1 + 1) (by omega) ((c21 cs).setIfInBounds 21 (.int .u32 ((rgV cs 21 + 4 + n % 4294967296 * 4) % 4294967296))))
  have K_hres := Lib.hid hres
  clear hres
  go_wp2_with fail
  have hres := K_hres.out
  refine bodyPost_ret (v := .tuple #[.agg ((c21 cs).setIfInBounds 21 (.int .u32 ((rgV cs 21 + 4 + n % 4294967296 * 4) % 4294967296))), .int .i64 0, .bool false]) ?_ rfl ⟨rfl, HB.out⟩
  simp [results, Tryd.results31, asAddr, hres]
set_option maxRecDepth 100000 in
set_option maxHeartbeats 1000000 in
theorem exec_3yft (cs : Array Value) (hc : CpuOk cs) (a c : Nat) (n l : Int) (hH : holdsV (flV cs 17) (flV cs 18) (flV cs 19) (flV cs 20) a = true) (hr : rightB 3 false true a 0 0 c n = true) (w : World) (hT : Tab w) :
    Calls Tryd.prog 31 #[.agg cs, ins 3 false true a 0 0 c n, .int .u32 l] w fun e w' => e = .returned (.tuple #[.agg (((c21 cs).setIfInBounds 21 (.int .u32 (rgV cs c))).setIfInBounds 15 (.int .u32 (nextV cs))), .int .i64 0, .bool false]) ∧ Below w.heap.size w w' := by
  have hF : FlagsAre cs (flV cs 17) (flV cs 18) (flV cs 19) (flV cs 20) := ⟨hc.nV, hc.zV, hc.cV, hc.vV⟩
  have HF := Lib.hid hF
  clear hF
  have hcc : c ≤ 15 := by have := (right_inv hr).2.2.1; omega
  obtain ⟨hrc, hrc0, hrc1⟩ := hc.rg (k := c) (by omega)
  have HRC := Lib.hid hrc
  clear hrc
  have HT : Hid (∀ W, Below w.heap.size w W → Tab W) := fun W hB => hT.below hB hT.lt
  clear hT
  obtain ⟨hpc, hp0, hp1⟩ := hc.pcV
  have HC := Lib.hid hc
  have HPC := Lib.hid hpc
  clear hc hpc
  unfold ins
  go_enter Tryd.func31, Tryd.ntmps31
  go_upto_region 3 with (go_at_call 43; refine (right_any _ _ _ _ _ _ _ _ _ (HT.out _ (by go_grown))).mono ?_; rintro e w1 ⟨rfl, hb1⟩; obtain ⟨h0, h1, h2, hs, hB⟩ := three hb1; clear hb1)
  have hl := load_cpu h0 HC.out.size
  have hst := store_new (w := w1) (Z := #[.int .u32 0, .int .u32 0, .int .u32 0, .int .u32 0, .int .u32 0, .int .u32 0, .int .u32 0, .int .u32 0, .int .u32 0, .int .u32 0, .int .u32 0, .int .u32 0, .int .u32 0, .int .u32 0, .int .u32 0, .int .u32 0, .int .u32 0, .bool false, .bool false, .bool false, .bool false, .int .u32 0]) (t := 39) rfl HC.out.size HC.out.one
  have h21 : w1.cell? ⟨w.heap.size, 21, none⟩ = some (.int .u32 (rgV cs 21)) := (h0.cell 21).trans HPC.out
  have key := exec_head h0 h1 h2 hs hB (.int .u32 ((rgV cs 21 + 4) % 4294967296))
  have hA := ((h0.old (.cells cs 39)).cell 21).trans HPC.out
  have hF := (h0.old (.cells cs 39)).frozen 21
  have H0 := Lib.hid h0
  have H1 := Lib.hid h1
  have HK := Lib.hid key
  clear h0 h1 h2 hB key
  go_upto_region 7 with fail
  clear hl hst h21 hA hF H0 H1
  obtain ⟨k0, k1, k2, k3, kB⟩ := HK.out
  clear HK
  generalize (w1.alloc (.cells cs 39)).setCell ⟨w.heap.size, 21, none⟩ (.int .u32 ((rgV cs 21 + 4) % 4294967296)) = W at k0 k1 k2 k3 kB ⊢
  have kT := HT.out W kB
  clear HT
  have k0 : Blk W w.heap.size (c21 cs) 39 := k0
  have i0 : W.cell? ⟨w.heap.size + 1, 0, none⟩ = some (.int .i64 3) := k1.cell 0
  have i1 : W.cell? ⟨w.heap.size + 1, 1, none⟩ = some (.bool false) := k1.cell 1
  have i2 : W.cell? ⟨w.heap.size + 1, 2, none⟩ = some (.bool true) := k1.cell 2
  have i3 : W.cell? ⟨w.heap.size + 1, 3, none⟩ = some (.int .i64 a) := k1.cell 3
  have i4 : W.cell? ⟨w.heap.size + 1, 4, none⟩ = some (.int .i64 0) := k1.cell 4
  have i5 : W.cell? ⟨w.heap.size + 1, 5, none⟩ = some (.int .i64 0) := k1.cell 5
  have i6 : W.cell? ⟨w.heap.size + 1, 6, none⟩ = some (.int .i64 c) := k1.cell 6
  have i7 : W.cell? ⟨w.heap.size + 1, 7, none⟩ = some (.int .i64 n) := k1.cell 7
  have hlo := load_cpu k3 HC.out.size
  have K_k0 := Lib.hid k0
  clear k0
  have K_k1 := Lib.hid k1
  clear k1
  have K_k2 := Lib.hid k2
  clear k2
  have K_k3 := Lib.hid k3
  clear k3
  have K_kB := Lib.hid kB
  clear kB
  have K_kT := Lib.hid kT
  clear kT
  have K_i1 := Lib.hid i1
  clear i1
  have K_i2 := Lib.hid i2
  clear i2
  have K_i6 := Lib.hid i6
  clear i6
  have K_i7 := Lib.hid i7
  clear i7
  go_upto_region 62 with (go_at_call 46; refine (holds_any cs _ _ _ _ HF.out _ _).mono ?_; rintro e w2 ⟨rfl, hb2⟩; clear hlo i0 i3 i4 i5; have j1 : w2.cell? ⟨w.heap.size + 1, 1, none⟩ = some (.bool false) := (K_k1.out.step hb2).cell 1; have j2 : w2.cell? ⟨w.heap.size + 1, 2, none⟩ = some (.bool true) := (K_k1.out.step hb2).cell 2; have j6 : w2.cell? ⟨w.heap.size + 1, 6, none⟩ = some (.int .i64 c) := (K_k1.out.step hb2).cell 6; have j7 : w2.cell? ⟨w.heap.size + 1, 7, none⟩ = some (.int .i64 n) := (K_k1.out.step hb2).cell 7; obtain ⟨x21, q21⟩ := at_some (n := 22) (k := 21) (c21_size HC.out.size) (by omega); have c21' := ((K_k0.out.step hb2).cell 21).trans q21; obtain ⟨x15, q15⟩ := at_some (n := 22) (k := 15) (c21_size HC.out.size) (by omega); have c15' := ((K_k0.out.step hb2).cell 15).trans q15; have cf := fun o => (K_k0.out.step hb2).frozen o; have cr := ((K_k3.out.step hb2).cell c).trans HRC.out; have Hb2 := Lib.hid hb2; clear q21 q15 hb2)
  have HLE : w.heap.size ≤ W.heap.size := K_kB.out.size
  have hl := load_cpu (((K_k0.out.step Hb2.out).set 21 (.int .u32 (rgV cs c))).set 15 (.int .u32 ((rgV cs 21 + 4) % 4294967296))) (by simp [c21, HC.out.size])
  have hst := store_cpu (((K_k2.out.step Hb2.out).far (by simp; omega) (p := ⟨w.heap.size, 21, none⟩) (.int .u32 (rgV cs c))).far (by simp; omega) (p := ⟨w.heap.size, 15, none⟩) (.int .u32 ((rgV cs 21 + 4) % 4294967296))) rfl (cs := (((c21 cs).setIfInBounds 21 (.int .u32 (rgV cs c))).setIfInBounds 15 (.int .u32 ((rgV cs 21 + 4) % 4294967296)))) (by simp [c21, HC.out.size]) (OneRow.set (OneRow.set (c21_one HC.out.one) 21 (v := .int .u32 (rgV cs c)) rfl) 15 (v := .int .u32 ((rgV cs 21 + 4) % 4294967296)) rfl)
  have hres := loadVar_cpu (Blk.setRow (((K_k2.out.step Hb2.out).far (by simp; omega) (p := ⟨w.heap.size, 21, none⟩) (.int .u32 (rgV cs c))).far (by simp; omega) (p := ⟨w.heap.size, 15, none⟩) (.int .u32 ((rgV cs 21 + 4) % 4294967296))) (((c21 cs).setIfInBounds 21 (.int .u32 (rgV cs c))).setIfInBounds 15 (.int .u32 ((rgV cs 21 + 4) % 4294967296)))) (by simp [c21, HC.out.size])
  have HB := Lib.hid (belRow (((K_kB.out.trans (Hb2.out.mono HLE)).setCell (p := ⟨w.heap.size, 21, none⟩) (Nat.le_refl _) (.int .u32 (rgV cs c))).setCell (p := ⟨w.heap.size, 15, none⟩) (Nat.le_refl _) (.int .u32 ((rgV cs 21 + 4) % 4294967296))) (g := w.heap.size + 1 + 1) (by omega) (((c21 cs).setIfInBounds 21 (.int .u32 (rgV cs c))).setIfInBounds 15 (.int .u32 ((rgV cs 21 + 4) % 4294967296))))
  have K_hres := Lib.hid hres
  clear hres
  go_wp2_with fail
  have hres := K_hres.out
  refine bodyPost_ret (v := .tuple #[.agg (((c21 cs).setIfInBounds 21 (.int .u32 (rgV cs c))).setIfInBounds 15 (.int .u32 ((rgV cs 21 + 4) % 4294967296))), .int .i64 0, .bool false]) ?_ rfl ⟨rfl, HB.out⟩
  simp [results, Tryd.results31, asAddr, hres]
set_option maxRecDepth 100000 in
set_option maxHeartbeats 1000000 in
theorem exec_3yff (cs : Array Value) (hc : CpuOk cs) (a c : Nat) (n l : Int) (hH : holdsV (flV cs 17) (flV cs 18) (flV cs 19) (flV cs 20) a = true) (hr : rightB 3 false false a 0 0 c n = true) (w : World) (hT : Tab w) :
    Calls Tryd.prog 31 #[.agg cs, ins 3 false false a 0 0 c n, .int .u32 l] w fun e w' => e = .returned (.tuple #[.agg ((c21 cs).setIfInBounds 21 (.int .u32 (rgV cs c))), .int .i64 0, .bool false]) ∧ Below w.heap.size w w' := by
  have hF : FlagsAre cs (flV cs 17) (flV cs 18) (flV cs 19) (flV cs 20) := ⟨hc.nV, hc.zV, hc.cV, hc.vV⟩
  have HF := Lib.hid hF
  clear hF
  have hcc : c ≤ 15 := by have := (right_inv hr).2.2.1; omega
  obtain ⟨hrc, hrc0, hrc1⟩ := hc.rg (k := c) (by omega)
  have HRC := Lib.hid hrc
  clear hrc
  have HT : Hid (∀ W, Below w.heap.size w W → Tab W) := fun W hB => hT.below hB hT.lt
  clear hT
  obtain ⟨hpc, hp0, hp1⟩ := hc.pcV
  have HC := Lib.hid hc
  have HPC := Lib.hid hpc
  clear hc hpc
  unfold ins
  go_enter Tryd.func31, Tryd.ntmps31
  go_upto_region 3 with (go_at_call 43; refine (right_any _ _ _ _ _ _ _ _ _ (HT.out _ (by go_grown))).mono ?_; rintro e w1 ⟨rfl, hb1⟩; obtain ⟨h0, h1, h2, hs, hB⟩ := three hb1; clear hb1)
  have hl := load_cpu h0 HC.out.size
  have hst := store_new (w := w1) (Z := #[.int .u32 0, .int .u32 0, .int .u32 0, .int .u32 0, .int .u32 0, .int .u32 0, .int .u32 0, .int .u32 0, .int .u32 0, .int .u32 0, .int .u32 0, .int .u32 0, .int .u32 0, .int .u32 0, .int .u32 0, .int .u32 0, .int .u32 0, .bool false, .bool false, .bool false, .bool false, .int .u32 0]) (t := 39) rfl HC.out.size HC.out.one
  have h21 : w1.cell? ⟨w.heap.size, 21, none⟩ = some (.int .u32 (rgV cs 21)) := (h0.cell 21).trans HPC.out
  have key := exec_head h0 h1 h2 hs hB (.int .u32 ((rgV cs 21 + 4) % 4294967296))
  have hA := ((h0.old (.cells cs 39)).cell 21).trans HPC.out
  have hF := (h0.old (.cells cs 39)).frozen 21
  have H0 := Lib.hid h0
  have H1 := Lib.hid h1
  have HK := Lib.hid key
  clear h0 h1 h2 hB key
  go_upto_region 7 with fail
  clear hl hst h21 hA hF H0 H1
  obtain ⟨k0, k1, k2, k3, kB⟩ := HK.out
  clear HK
  generalize (w1.alloc (.cells cs 39)).setCell ⟨w.heap.size, 21, none⟩ (.int .u32 ((rgV cs 21 + 4) % 4294967296)) = W at k0 k1 k2 k3 kB ⊢
  have kT := HT.out W kB
  clear HT
  have k0 : Blk W w.heap.size (c21 cs) 39 := k0
  have i0 : W.cell? ⟨w.heap.size + 1, 0, none⟩ = some (.int .i64 3) := k1.cell 0
  have i1 : W.cell? ⟨w.heap.size + 1, 1, none⟩ = some (.bool false) := k1.cell 1
  have i2 : W.cell? ⟨w.heap.size + 1, 2, none⟩ = some (.bool false) := k1.cell 2
  have i3 : W.cell? ⟨w.heap.size + 1, 3, none⟩ = some (.int .i64 a) := k1.cell 3
  have i4 : W.cell? ⟨w.heap.size + 1, 4, none⟩ = some (.int .i64 0) := k1.cell 4
  have i5 : W.cell? ⟨w.heap.size + 1, 5, none⟩ = some (.int .i64 0) := k1.cell 5
  have i6 : W.cell? ⟨w.heap.size + 1, 6, none⟩ = some (.int .i64 c) := k1.cell 6
  have i7 : W.cell? ⟨w.heap.size + 1, 7, none⟩ = some (.int .i64 n) := k1.cell 7
  have hlo := load_cpu k3 HC.out.size
  have K_k0 := Lib.hid k0
  clear k0
  have K_k1 := Lib.hid k1
  clear k1
  have K_k2 := Lib.hid k2
  clear k2
  have K_k3 := Lib.hid k3
  clear k3
  have K_kB := Lib.hid kB
  clear kB
  have K_kT := Lib.hid kT
  clear kT
  have K_i1 := Lib.hid i1
  clear i1
  have K_i2 := Lib.hid i2
  clear i2
  have K_i6 := Lib.hid i6
  clear i6
  have K_i7 := Lib.hid i7
  clear i7
  go_upto_region 62 with (go_at_call 46; refine (holds_any cs _ _ _ _ HF.out _ _).mono ?_; rintro e w2 ⟨rfl, hb2⟩; clear hlo i0 i3 i4 i5; have j1 : w2.cell? ⟨w.heap.size + 1, 1, none⟩ = some (.bool false) := (K_k1.out.step hb2).cell 1; have j2 : w2.cell? ⟨w.heap.size + 1, 2, none⟩ = some (.bool false) := (K_k1.out.step hb2).cell 2; have j6 : w2.cell? ⟨w.heap.size + 1, 6, none⟩ = some (.int .i64 c) := (K_k1.out.step hb2).cell 6; have j7 : w2.cell? ⟨w.heap.size + 1, 7, none⟩ = some (.int .i64 n) := (K_k1.out.step hb2).cell 7; obtain ⟨x21, q21⟩ := at_some (n := 22) (k := 21) (c21_size HC.out.size) (by omega); have c21' := ((K_k0.out.step hb2).cell 21).trans q21; obtain ⟨x15, q15⟩ := at_some (n := 22) (k := 15) (c21_size HC.out.size) (by omega); have c15' := ((K_k0.out.step hb2).cell 15).trans q15; have cf := fun o => (K_k0.out.step hb2).frozen o; have cr := ((K_k3.out.step hb2).cell c).trans HRC.out; have Hb2 := Lib.hid hb2; clear q21 q15 hb2)
  have HLE : w.heap.size ≤ W.heap.size := K_kB.out.size
  have hl := load_cpu ((K_k0.out.step Hb2.out).set 21 (.int .u32 (rgV cs c))) (by simp [c21, HC.out.size])
  have hst := store_cpu ((K_k2.out.step Hb2.out).far (by simp; omega) (p := ⟨w.heap.size, 21, none⟩) (.int .u32 (rgV cs c))) rfl (cs := ((c21 cs).setIfInBounds 21 (.int .u32 (rgV cs c)))) (by simp [c21, HC.out.size]) (OneRow.set (c21_one HC.out.one) 21 (v := .int .u32 (rgV cs c)) rfl)
  have hres := loadVar_cpu (Blk.setRow ((K_k2.out.step Hb2.out).far (by simp; omega) (p := ⟨w.heap.size, 21, none⟩) (.int .u32 (rgV cs c))) ((c21 cs).setIfInBounds 21 (.int .u32 (rgV cs c)))) (by simp [c21, HC.out.size])
  have HB := Lib.hid (belRow ((K_kB.out.trans (Hb2.out.mono HLE)).setCell (p := ⟨w.heap.size, 21, none⟩) (Nat.le_refl _) (.int .u32 (rgV cs c))) (g := w.heap.size + 1 + 1) (by omega) ((c21 cs).setIfInBounds 21 (.int .u32 (rgV cs c))))
  have K_hres := Lib.hid hres
  clear hres
  go_wp2_with fail
  have hres := K_hres.out
  refine bodyPost_ret (v := .tuple #[.agg ((c21 cs).setIfInBounds 21 (.int .u32 (rgV cs c))), .int .i64 0, .bool false]) ?_ rfl ⟨rfl, HB.out⟩
  simp [results, Tryd.results31, asAddr, hres]
end Go.Proofs.YtgcknekhimpfkaaDoor
