/- Exec of what is reckoned. -/
import Derived.Test.YtgcknekhimpfkaaDoorCpuN
import Derived.Deep.DeepCutAuto
import Derived.Deep.CutRange
import Derived.RegionTactic
import Derived.ChangeAlike
namespace Go.Proofs.YtgcknekhimpfkaaDoor
open Go Go.RowKit Go.Lib Go.Proofs.YtgcknekhimpfkaaDoor.Pl
set_option linter.unusedVariables false
set_option linter.unusedSimpArgs false
attribute [local go_sem ↓] exec_load_cpu exec_store_cpu
set_option maxRecDepth 100000 in
set_option maxHeartbeats 1000000 in
theorem exec_op5 (cs : Array Value) (hc : CpuOk cs) (f : Int) (hf : f = 0 ∨ f = 1) (u v : Bool) (a b c : Nat) (n l : Int) (hr : rightB f u v a b 5 c n = true) (w : World) (hT : Tab w) :
    Calls Tryd.prog 31 #[.agg cs, ins f u v a b 5 c n, .int .u32 l] w fun e w' => e = .returned (.tuple #[.agg (fin (c21 cs) a (bits .andNot .u32 (rgV cs b) (opX cs f v c n))), .int .i64 0, .bool false]) ∧ Below w.heap.size w w' := by
  have hn := reck_n (hf) hr
  have hn0 := hn.1
  have hn1 := hn.2
  clear hn
  have ha : a ≤ 15 := by have := (right_inv hr).1; omega
  have hbb : b ≤ 15 := by have := (right_inv hr).2.1; omega
  have hcc : c ≤ 15 := by have := (right_inv hr).2.2.1; omega
  obtain ⟨hrc, hrc0, hrc1⟩ := hc.rg (k := c) (by omega)
  obtain ⟨hrb, hrb0, hrb1⟩ := hc.rg (k := b) (by omega)
  obtain ⟨hX0, hX1⟩ := opX_bd hc f v hcc hn0 hn1
  have hot := or_top n hn0 hn1
  have HRC := Lib.hid hrc
  have HRB := Lib.hid hrb
  clear hrc hrb
  have hf2 : (f == 2) = false := by simp; omega
  have hf3 : (f == 3) = false := by simp; omega
  have HT : Hid (∀ W, Below w.heap.size w W → Tab W) := fun W hB => hT.below hB hT.lt
  clear hT
  obtain ⟨hpc, hp0, hp1⟩ := hc.pcV
  have HC := Lib.hid hc
  have HPC := Lib.hid hpc
  clear hc hpc
  unfold ins
  go_enter Tryd.func31, Tryd.ntmps31
  go_upto_region 3 with (go_at_call 43; refine (right_any _ _ _ _ _ _ _ _ _ (HT.out _ (by go_grown))).mono ?_; rintro e w1 ⟨rfl, hb1⟩; obtain ⟨h0, h1, h2, hs, hB⟩ := three hb1; clear hb1)
  have hl := load_cpu h0 HC.out.size
  have hst := store_new (w := w1) (Z := #[.int .u32 0, .int .u32 0, .int .u32 0, .int .u32 0, .int .u32 0, .int .u32 0, .int .u32 0, .int .u32 0, .int .u32 0, .int .u32 0, .int .u32 0, .int .u32 0, .int .u32 0, .int .u32 0, .int .u32 0, .int .u32 0, .int .u32 0, .bool false, .bool false, .bool false, .bool false, .int .u32 0]) (t := 39) rfl HC.out.size HC.out.one
  have h21 : w1.cell? ⟨w.heap.size, 21, none⟩ = some (.int .u32 (rgV cs 21)) := (h0.cell 21).trans HPC.out
  have key := exec_head h0 h1 h2 hs hB (.int .u32 ((rgV cs 21 + 4) % 4294967296))
  have hA := ((h0.old (.cells cs 39)).cell 21).trans HPC.out
  have hF := (h0.old (.cells cs 39)).frozen 21
  have H0 := Lib.hid h0
  have H1 := Lib.hid h1
  have HK := Lib.hid key
  clear h0 h1 h2 hB key
  go_upto_region 7 with fail
  clear hl hst h21 hA hF H0 H1
  obtain ⟨k0, k1, k2, k3, kB⟩ := HK.out
  clear HK
  generalize (w1.alloc (.cells cs 39)).setCell ⟨w.heap.size, 21, none⟩ (.int .u32 ((rgV cs 21 + 4) % 4294967296)) = W at k0 k1 k2 k3 kB ⊢
  have kT := HT.out W kB
  clear HT
  have k0 : Blk W w.heap.size (c21 cs) 39 := k0
  have i0 : W.cell? ⟨w.heap.size + 1, 0, none⟩ = some (.int .i64 f) := k1.cell 0
  have i1 : W.cell? ⟨w.heap.size + 1, 1, none⟩ = some (.bool u) := k1.cell 1
  have i2 : W.cell? ⟨w.heap.size + 1, 2, none⟩ = some (.bool v) := k1.cell 2
  have i3 : W.cell? ⟨w.heap.size + 1, 3, none⟩ = some (.int .i64 a) := k1.cell 3
  have i4 : W.cell? ⟨w.heap.size + 1, 4, none⟩ = some (.int .i64 b) := k1.cell 4
  have i5 : W.cell? ⟨w.heap.size + 1, 5, none⟩ = some (.int .i64 5) := k1.cell 5
  have i6 : W.cell? ⟨w.heap.size + 1, 6, none⟩ = some (.int .i64 c) := k1.cell 6
  have i7 : W.cell? ⟨w.heap.size + 1, 7, none⟩ = some (.int .i64 n) := k1.cell 7
  have oc := (k3.cell c).trans HRC.out
  have ob := (k3.cell b).trans HRB.out
  have K_k0 := Lib.hid k0
  clear k0
  have K_k1 := Lib.hid k1
  clear k1
  have K_k2 := Lib.hid k2
  clear k2
  have K_k3 := Lib.hid k3
  clear k3
  have K_kB := Lib.hid kB
  clear kB
  have K_kT := Lib.hid kT
  clear kT
  have K_i1 := Lib.hid i1
  clear i1
  have K_i3 := Lib.hid i3
  clear i3
  have K_i5 := Lib.hid i5
  clear i5
  go_upto_if 32 with fail
  go_cut [12] from 33 to 41 (fun s12 wx => s12 = .int .u32 (opX cs f v c n) ∧ W = wx)
  case first =>
    rcases hf with rfl | rfl
    · go_wp2_with fail
      go_meet
      exact ⟨rfl, rfl⟩
    · cases v
      · go_wp2_with fail
        go_meet
        exact ⟨rfl, rfl⟩
      · go_wp2_with fail
        go_meet
        exact ⟨rfl, rfl⟩
  case rest =>
    obtain ⟨rfl, rfl⟩ := hcut
    clear oc hot i0 i2 i6 i7
    have i1 := K_i1.out
    have i5 := K_i5.out
    go_upto_region 63 with fail
    obtain ⟨⟨xa, ta⟩, ⟨x17, t17⟩, ⟨x18, t18⟩, tf, hl, hst, hres⟩ := tailf K_k0.out K_k2.out (by omega) (by simp [c21, HC.out.size]) rfl (c21_one HC.out.one) a ha
    have hw : Hid (0 ≤ (bits .andNot .u32 (rgV cs b) (opX cs f v c n)) ∧ (bits .andNot .u32 (rgV cs b) (opX cs f v c n)) < 4294967296) := u32_bits_bd .andNot _ _
    have hB := Lib.hid K_kB.out
    have i3 : W.cell? ⟨w.heap.size + 1, 3, none⟩ = some (.int .i64 a) := K_k1.out.cell 3
    have K_hres := Lib.hid hres
    clear hres
    go_wp2_with fail
    have hres := K_hres.out
    refine bodyPost_ret (v := .tuple #[.agg (finR (c21 cs) a (bits .andNot .u32 (rgV cs b) (opX cs f v c n)) ((bits .andNot .u32 (rgV cs b) (opX cs f v c n)) / 2147483648 != 0) ((bits .andNot .u32 (rgV cs b) (opX cs f v c n)) == 0)), .int .i64 0, .bool false]) ?_ rfl ⟨by rw [finR_fin _ _ _ hw.out.1 hw.out.2]; try rfl, belRow (bel_chain hB.out _ _ _ _) (by omega) _⟩
    simp [results, Tryd.results31, asAddr, hres]
set_option maxRecDepth 100000 in
set_option maxHeartbeats 1000000 in
theorem exec_op6 (cs : Array Value) (hc : CpuOk cs) (f : Int) (hf : f = 0 ∨ f = 1) (u v : Bool) (a b c : Nat) (n l : Int) (hr : rightB f u v a b 6 c n = true) (w : World) (hT : Tab w) :
    Calls Tryd.prog 31 #[.agg cs, ins f u v a b 6 c n, .int .u32 l] w fun e w' => e = .returned (.tuple #[.agg (fin (c21 cs) a (bits .or .u32 (rgV cs b) (opX cs f v c n))), .int .i64 0, .bool false]) ∧ Below w.heap.size w w' := by
  have hn := reck_n (hf) hr
  have hn0 := hn.1
  have hn1 := hn.2
  clear hn
  have ha : a ≤ 15 := by have := (right_inv hr).1; omega
  have hbb : b ≤ 15 := by have := (right_inv hr).2.1; omega
  have hcc : c ≤ 15 := by have := (right_inv hr).2.2.1; omega
  obtain ⟨hrc, hrc0, hrc1⟩ := hc.rg (k := c) (by omega)
  obtain ⟨hrb, hrb0, hrb1⟩ := hc.rg (k := b) (by omega)
  obtain ⟨hX0, hX1⟩ := opX_bd hc f v hcc hn0 hn1
  have hot := or_top n hn0 hn1
  have HRC := Lib.hid hrc
  have HRB := Lib.hid hrb
  clear hrc hrb
  have hf2 : (f == 2) = false := by simp; omega
  have hf3 : (f == 3) = false := by simp; omega
  have HT : Hid (∀ W, Below w.heap.size w W → Tab W) := fun W hB => hT.below hB hT.lt
  clear hT
  obtain ⟨hpc, hp0, hp1⟩ := hc.pcV
  have HC := Lib.hid hc
  have HPC := Lib.hid hpc
  clear hc hpc
  unfold ins
  go_enter Tryd.func31, Tryd.ntmps31
  go_upto_region 3 with (go_at_call 43; refine (right_any _ _ _ _ _ _ _ _ _ (HT.out _ (by go_grown))).mono ?_; rintro e w1 ⟨rfl, hb1⟩; obtain ⟨h0, h1, h2, hs, hB⟩ := three hb1; clear hb1)
  have hl := load_cpu h0 HC.out.size
  have hst := store_new (w := w1) (Z := #[.int .u32 0, .int .u32 0, .int .u32 0, .int .u32 0, .int .u32 0, .int .u32 0, .int .u32 0, .int .u32 0, .int .u32 0, .int .u32 0, .int .u32 0, .int .u32 0, .int .u32 0, .int .u32 0, .int .u32 0, .int .u32 0, .int .u32 0, .bool false, .bool false, .bool false, .bool false, .int .u32 0]) (t := 39) rfl HC.out.size HC.out.one
  have h21 : w1.cell? ⟨w.heap.size, 21, none⟩ = some (.int .u32 (rgV cs 21)) := (h0.cell 21).trans HPC.out
  have key := exec_head h0 h1 h2 hs hB (.int .u32 ((rgV cs 21 + 4) % 4294967296))
  have hA := ((h0.old (.cells cs 39)).cell 21).trans HPC.out
  have hF := (h0.old (.cells cs 39)).frozen 21
  have H0 := Lib.hid h0
  have H1 := Lib.hid h1
  have HK := Lib.hid key
  clear h0 h1 h2 hB key
  go_upto_region 7 with fail
  clear hl hst h21 hA hF H0 H1
  obtain ⟨k0, k1, k2, k3, kB⟩ := HK.out
  clear HK
  generalize (w1.alloc (.cells cs 39)).setCell ⟨w.heap.size, 21, none⟩ (.int .u32 ((rgV cs 21 + 4) % 4294967296)) = W at k0 k1 k2 k3 kB ⊢
  have kT := HT.out W kB
  clear HT
  have k0 : Blk W w.heap.size (c21 cs) 39 := k0
  have i0 : W.cell? ⟨w.heap.size + 1, 0, none⟩ = some (.int .i64 f) := k1.cell 0
  have i1 : W.cell? ⟨w.heap.size + 1, 1, none⟩ = some (.bool u) := k1.cell 1
  have i2 : W.cell? ⟨w.heap.size + 1, 2, none⟩ = some (.bool v) := k1.cell 2
  have i3 : W.cell? ⟨w.heap.size + 1, 3, none⟩ = some (.int .i64 a) := k1.cell 3
  have i4 : W.cell? ⟨w.heap.size + 1, 4, none⟩ = some (.int .i64 b) := k1.cell 4
  have i5 : W.cell? ⟨w.heap.size + 1, 5, none⟩ = some (.int .i64 6) := k1.cell 5
  have i6 : W.cell? ⟨w.heap.size + 1, 6, none⟩ = some (.int .i64 c) := k1.cell 6
  have i7 : W.cell? ⟨w.heap.size + 1, 7, none⟩ = some (.int .i64 n) := k1.cell 7
  have oc := (k3.cell c).trans HRC.out
  have ob := (k3.cell b).trans HRB.out
  have K_k0 := Lib.hid k0
  clear k0
  have K_k1 := Lib.hid k1
  clear k1
  have K_k2 := Lib.hid k2
  clear k2
  have K_k3 := Lib.hid k3
  clear k3
  have K_kB := Lib.hid kB
  clear kB
  have K_kT := Lib.hid kT
  clear kT
  have K_i1 := Lib.hid i1
  clear i1
  have K_i3 := Lib.hid i3
  clear i3
  have K_i5 := Lib.hid i5
  clear i5
  go_upto_if 32 with fail
  go_cut [12] from 33 to 41 (fun s12 wx => s12 = .int .u32 (opX cs f v c n) ∧ W = wx)
  case first =>
    rcases hf with rfl | rfl
    · go_wp2_with fail
      go_meet
      exact ⟨rfl, rfl⟩
    · cases v
      · go_wp2_with fail
        go_meet
        exact ⟨rfl, rfl⟩
      · go_wp2_with fail
        go_meet
        exact ⟨rfl, rfl⟩
  case rest =>
    obtain ⟨rfl, rfl⟩ := hcut
    clear oc hot i0 i2 i6 i7
    have i1 := K_i1.out
    have i5 := K_i5.out
    go_upto_region 63 with fail
    obtain ⟨⟨xa, ta⟩, ⟨x17, t17⟩, ⟨x18, t18⟩, tf, hl, hst, hres⟩ := tailf K_k0.out K_k2.out (by omega) (by simp [c21, HC.out.size]) rfl (c21_one HC.out.one) a ha
    have hw : Hid (0 ≤ (bits .or .u32 (rgV cs b) (opX cs f v c n)) ∧ (bits .or .u32 (rgV cs b) (opX cs f v c n)) < 4294967296) := u32_bits_bd .or _ _
    have hB := Lib.hid K_kB.out
    have i3 : W.cell? ⟨w.heap.size + 1, 3, none⟩ = some (.int .i64 a) := K_k1.out.cell 3
    have K_hres := Lib.hid hres
    clear hres
    go_wp2_with fail
    have hres := K_hres.out
    refine bodyPost_ret (v := .tuple #[.agg (finR (c21 cs) a (bits .or .u32 (rgV cs b) (opX cs f v c n)) ((bits .or .u32 (rgV cs b) (opX cs f v c n)) / 2147483648 != 0) ((bits .or .u32 (rgV cs b) (opX cs f v c n)) == 0)), .int .i64 0, .bool false]) ?_ rfl ⟨by rw [finR_fin _ _ _ hw.out.1 hw.out.2]; try rfl, belRow (bel_chain hB.out _ _ _ _) (by omega) _⟩
    simp [results, Tryd.results31, asAddr, hres]
set_option maxRecDepth 100000 in
set_option maxHeartbeats 1000000 in
theorem exec_op7 (cs : Array Value) (hc : CpuOk cs) (f : Int) (hf : f = 0 ∨ f = 1) (u v : Bool) (a b c : Nat) (n l : Int) (hr : rightB f u v a b 7 c n = true) (w : World) (hT : Tab w) :
    Calls Tryd.prog 31 #[.agg cs, ins f u v a b 7 c n, .int .u32 l] w fun e w' => e = .returned (.tuple #[.agg (fin (c21 cs) a (bits .xor .u32 (rgV cs b) (opX cs f v c n))), .int .i64 0, .bool false]) ∧ Below w.heap.size w w' := by
  have hn := reck_n (hf) hr
  have hn0 := hn.1
  have hn1 := hn.2
  clear hn
  have ha : a ≤ 15 := by have := (right_inv hr).1; omega
  have hbb : b ≤ 15 := by have := (right_inv hr).2.1; omega
  have hcc : c ≤ 15 := by have := (right_inv hr).2.2.1; omega
  obtain ⟨hrc, hrc0, hrc1⟩ := hc.rg (k := c) (by omega)
  obtain ⟨hrb, hrb0, hrb1⟩ := hc.rg (k := b) (by omega)
  obtain ⟨hX0, hX1⟩ := opX_bd hc f v hcc hn0 hn1
  have hot := or_top n hn0 hn1
  have HRC := Lib.hid hrc
  have HRB := Lib.hid hrb
  clear hrc hrb
  have hf2 : (f == 2) = false := by simp; omega
  have hf3 : (f == 3) = false := by simp; omega
  have HT : Hid (∀ W, Below w.heap.size w W → Tab W) := fun W hB => hT.below hB hT.lt
  clear hT
  obtain ⟨hpc, hp0, hp1⟩ := hc.pcV
  have HC := Lib.hid hc
  have HPC := Lib.hid hpc
  clear hc hpc
  unfold ins
  go_enter Tryd.func31, Tryd.ntmps31
  go_upto_region 3 with (go_at_call 43; refine (right_any _ _ _ _ _ _ _ _ _ (HT.out _ (by go_grown))).mono ?_; rintro e w1 ⟨rfl, hb1⟩; obtain ⟨h0, h1, h2, hs, hB⟩ := three hb1; clear hb1)
  have hl := load_cpu h0 HC.out.size
  have hst := store_new (w := w1) (Z := #[.int .u32 0, .int .u32 0, .int .u32 0, .int .u32 0, .int .u32 0, .int .u32 0, .int .u32 0, .int .u32 0, .int .u32 0, .int .u32 0, .int .u32 0, .int .u32 0, .int .u32 0, .int .u32 0, .int .u32 0, .int .u32 0, .int .u32 0, .bool false, .bool false, .bool false, .bool false, .int .u32 0]) (t := 39) rfl HC.out.size HC.out.one
  have h21 : w1.cell? ⟨w.heap.size, 21, none⟩ = some (.int .u32 (rgV cs 21)) := (h0.cell 21).trans HPC.out
  have key := exec_head h0 h1 h2 hs hB (.int .u32 ((rgV cs 21 + 4) % 4294967296))
  have hA := ((h0.old (.cells cs 39)).cell 21).trans HPC.out
  have hF := (h0.old (.cells cs 39)).frozen 21
  have H0 := Lib.hid h0
  have H1 := Lib.hid h1
  have HK := Lib.hid key
  clear h0 h1 h2 hB key
  go_upto_region 7 with fail
  clear hl hst h21 hA hF H0 H1
  obtain ⟨k0, k1, k2, k3, kB⟩ := HK.out
  clear HK
  generalize (w1.alloc (.cells cs 39)).setCell ⟨w.heap.size, 21, none⟩ (.int .u32 ((rgV cs 21 + 4) % 4294967296)) = W at k0 k1 k2 k3 kB ⊢
  have kT := HT.out W kB
  clear HT
  have k0 : Blk W w.heap.size (c21 cs) 39 := k0
  have i0 : W.cell? ⟨w.heap.size + 1, 0, none⟩ = some (.int .i64 f) := k1.cell 0
  have i1 : W.cell? ⟨w.heap.size + 1, 1, none⟩ = some (.bool u) := k1.cell 1
  have i2 : W.cell? ⟨w.heap.size + 1, 2, none⟩ = some (.bool v) := k1.cell 2
  have i3 : W.cell? ⟨w.heap.size + 1, 3, none⟩ = some (.int .i64 a) := k1.cell 3
  have i4 : W.cell? ⟨w.heap.size + 1, 4, none⟩ = some (.int .i64 b) := k1.cell 4
  have i5 : W.cell? ⟨w.heap.size + 1, 5, none⟩ = some (.int .i64 7) := k1.cell 5
  have i6 : W.cell? ⟨w.heap.size + 1, 6, none⟩ = some (.int .i64 c) := k1.cell 6
  have i7 : W.cell? ⟨w.heap.size + 1, 7, none⟩ = some (.int .i64 n) := k1.cell 7
  have oc := (k3.cell c).trans HRC.out
  have ob := (k3.cell b).trans HRB.out
  have K_k0 := Lib.hid k0
  clear k0
  have K_k1 := Lib.hid k1
  clear k1
  have K_k2 := Lib.hid k2
  clear k2
  have K_k3 := Lib.hid k3
  clear k3
  have K_kB := Lib.hid kB
  clear kB
  have K_kT := Lib.hid kT
  clear kT
  have K_i1 := Lib.hid i1
  clear i1
  have K_i3 := Lib.hid i3
  clear i3
  have K_i5 := Lib.hid i5
  clear i5
  go_upto_if 32 with fail
  go_cut [12] from 33 to 41 (fun s12 wx => s12 = .int .u32 (opX cs f v c n) ∧ W = wx)
  case first =>
    rcases hf with rfl | rfl
    · go_wp2_with fail
      go_meet
      exact ⟨rfl, rfl⟩
    · cases v
      · go_wp2_with fail
        go_meet
        exact ⟨rfl, rfl⟩
      · go_wp2_with fail
        go_meet
        exact ⟨rfl, rfl⟩
  case rest =>
    obtain ⟨rfl, rfl⟩ := hcut
    clear oc hot i0 i2 i6 i7
    have i1 := K_i1.out
    have i5 := K_i5.out
    go_upto_region 63 with fail
    obtain ⟨⟨xa, ta⟩, ⟨x17, t17⟩, ⟨x18, t18⟩, tf, hl, hst, hres⟩ := tailf K_k0.out K_k2.out (by omega) (by simp [c21, HC.out.size]) rfl (c21_one HC.out.one) a ha
    have hw : Hid (0 ≤ (bits .xor .u32 (rgV cs b) (opX cs f v c n)) ∧ (bits .xor .u32 (rgV cs b) (opX cs f v c n)) < 4294967296) := u32_bits_bd .xor _ _
    have hB := Lib.hid K_kB.out
    have i3 : W.cell? ⟨w.heap.size + 1, 3, none⟩ = some (.int .i64 a) := K_k1.out.cell 3
    have K_hres := Lib.hid hres
    clear hres
    go_wp2_with fail
    have hres := K_hres.out
    refine bodyPost_ret (v := .tuple #[.agg (finR (c21 cs) a (bits .xor .u32 (rgV cs b) (opX cs f v c n)) ((bits .xor .u32 (rgV cs b) (opX cs f v c n)) / 2147483648 != 0) ((bits .xor .u32 (rgV cs b) (opX cs f v c n)) == 0)), .int .i64 0, .bool false]) ?_ rfl ⟨by rw [finR_fin _ _ _ hw.out.1 hw.out.2]; try rfl, belRow (bel_chain hB.out _ _ _ _) (by omega) _⟩
    simp [results, Tryd.results31, asAddr, hres]
end Go.Proofs.YtgcknekhimpfkaaDoor
