/- Exec of what is reckoned. -/
import Derived.Test.YtgcknekhimpfkaaDoorCpuN
import Derived.Deep.DeepCutAuto
import Derived.Deep.CutRange
import Derived.RegionTactic
import Derived.ChangeAlike
namespace Go.Proofs.YtgcknekhimpfkaaDoor
open Go Go.RowKit Go.Lib Go.Proofs.YtgcknekhimpfkaaDoor.Pl
set_option linter.unusedVariables false
set_option linter.unusedSimpArgs false
attribute [local go_sem ↓] exec_load_cpu exec_store_cpu
set_option maxRecDepth 100000 in
set_option maxHeartbeats 1000000 in
theorem exec_op0n (cs : Array Value) (hc : CpuOk cs) (f : Int) (hf : f = 0 ∨ f = 1) (v : Bool) (a b c : Nat) (n l : Int) (hr : rightB f false v a b 0 c n = true) (w : World) (hT : Tab w) :
    Calls Tryd.prog 31 #[.agg cs, ins f false v a b 0 c n, .int .u32 l] w fun e w' => e = .returned (.tuple #[.agg (fin (c21 cs) a ((opX cs f v c n))), .int .i64 0, .bool false]) ∧ Below w.heap.size w w' := by
  have hn := reck_n (hf) hr
  have hn0 := hn.1
  have hn1 := hn.2
  clear hn
  have ha : a ≤ 15 := by have := (right_inv hr).1; omega
  have hbb : b ≤ 15 := by have := (right_inv hr).2.1; omega
  have hcc : c ≤ 15 := by have := (right_inv hr).2.2.1; omega
  obtain ⟨hrc, hrc0, hrc1⟩ := hc.rg (k := c) (by omega)
  obtain ⟨hrb, hrb0, hrb1⟩ := hc.rg (k := b) (by omega)
  obtain ⟨hX0, hX1⟩ := opX_bd hc f v hcc hn0 hn1
  have hot := or_top n hn0 hn1
  have HRC := Lib.hid hrc
  have HRB := Lib.hid hrb
  clear hrc hrb
  have hf2 : (f == 2) = false := by simp; omega
  have hf3 : (f == 3) = false := by simp; omega
  have HT : Hid (∀ W, Below w.heap.size w W → Tab W) := fun W hB => hT.below hB hT.lt
  clear hT
  obtain ⟨hpc, hp0, hp1⟩ := hc.pcV
  have HC := Lib.hid hc
  have HPC := Lib.hid hpc
  clear hc hpc
  unfold ins
  go_enter Tryd.func31, Tryd.ntmps31
  go_upto_region 3 with (go_at_call 43; refine (right_any _ _ _ _ _ _ _ _ _ (HT.out _ (by go_grown))).mono ?_; rintro e w1 ⟨rfl, hb1⟩; obtain ⟨h0, h1, h2, hs, hB⟩ := three hb1; clear hb1)
  have hl := load_cpu h0 HC.out.size
  have hst := store_new (w := w1) (Z := #[.int .u32 0, .int .u32 0, .int .u32 0, .int .u32 0, .int .u32 0, .int .u32 0, .int .u32 0, .int .u32 0, .int .u32 0, .int .u32 0, .int .u32 0, .int .u32 0, .int .u32 0, .int .u32 0, .int .u32 0, .int .u32 0, .int .u32 0, .bool false, .bool false, .bool false, .bool false, .int .u32 0]) (t := 39) rfl HC.out.size HC.out.one
  have h21 : w1.cell? ⟨w.heap.size, 21, none⟩ = some (.int .u32 (rgV cs 21)) := (h0.cell 21).trans HPC.out
  have key := exec_head h0 h1 h2 hs hB (.int .u32 ((rgV cs 21 + 4) % 4294967296))
  have hA := ((h0.old (.cells cs 39)).cell 21).trans HPC.out
  have hF := (h0.old (.cells cs 39)).frozen 21
  have H0 := Lib.hid h0
  have H1 := Lib.hid h1
  have HK := Lib.hid key
  clear h0 h1 h2 hB key
  go_upto_region 7 with fail
  clear hl hst h21 hA hF H0 H1
  obtain ⟨k0, k1, k2, k3, kB⟩ := HK.out
  clear HK
  generalize (w1.alloc (.cells cs 39)).setCell ⟨w.heap.size, 21, none⟩ (.int .u32 ((rgV cs 21 + 4) % 4294967296)) = W at k0 k1 k2 k3 kB ⊢
  have kT := HT.out W kB
  clear HT
  have k0 : Blk W w.heap.size (c21 cs) 39 := k0
  have i0 : W.cell? ⟨w.heap.size + 1, 0, none⟩ = some (.int .i64 f) := k1.cell 0
  have i1 : W.cell? ⟨w.heap.size + 1, 1, none⟩ = some (.bool false) := k1.cell 1
  have i2 : W.cell? ⟨w.heap.size + 1, 2, none⟩ = some (.bool v) := k1.cell 2
  have i3 : W.cell? ⟨w.heap.size + 1, 3, none⟩ = some (.int .i64 a) := k1.cell 3
  have i4 : W.cell? ⟨w.heap.size + 1, 4, none⟩ = some (.int .i64 b) := k1.cell 4
  have i5 : W.cell? ⟨w.heap.size + 1, 5, none⟩ = some (.int .i64 0) := k1.cell 5
  have i6 : W.cell? ⟨w.heap.size + 1, 6, none⟩ = some (.int .i64 c) := k1.cell 6
  have i7 : W.cell? ⟨w.heap.size + 1, 7, none⟩ = some (.int .i64 n) := k1.cell 7
  have oc := (k3.cell c).trans HRC.out
  have ob := (k3.cell b).trans HRB.out
  have K_k0 := Lib.hid k0
  clear k0
  have K_k1 := Lib.hid k1
  clear k1
  have K_k2 := Lib.hid k2
  clear k2
  have K_k3 := Lib.hid k3
  clear k3
  have K_kB := Lib.hid kB
  clear kB
  have K_kT := Lib.hid kT
  clear kT
  have K_i1 := Lib.hid i1
  clear i1
  have K_i3 := Lib.hid i3
  clear i3
  have K_i5 := Lib.hid i5
  clear i5
  go_upto_if 32 with fail
  go_cut [12] from 33 to 41 (fun s12 wx => s12 = .int .u32 (opX cs f v c n) ∧ W = wx)
  case first =>
    rcases hf with rfl | rfl
    · go_wp2_with fail
      go_meet
      exact ⟨rfl, rfl⟩
    · cases v
      · go_wp2_with fail
        go_meet
        exact ⟨rfl, rfl⟩
      · go_wp2_with fail
        go_meet
        exact ⟨rfl, rfl⟩
  case rest =>
    obtain ⟨rfl, rfl⟩ := hcut
    clear oc hot i6 i7
    have i1 := K_i1.out
    have i5 := K_i5.out
    go_upto_region 63 with fail
    obtain ⟨⟨xa, ta⟩, ⟨x17, t17⟩, ⟨x18, t18⟩, tf, hl, hst, hres⟩ := tailf K_k0.out K_k2.out (by omega) (by simp [c21, HC.out.size]) rfl (c21_one HC.out.one) a ha
    have hw : Hid (0 ≤ ((opX cs f v c n)) ∧ ((opX cs f v c n)) < 4294967296) := ⟨hX0, hX1⟩
    have hB := Lib.hid K_kB.out
    have i3 : W.cell? ⟨w.heap.size + 1, 3, none⟩ = some (.int .i64 a) := K_k1.out.cell 3
    have K_hres := Lib.hid hres
    clear hres
    go_wp2_with fail
    have hres := K_hres.out
    refine bodyPost_ret (v := .tuple #[.agg (finR (c21 cs) a ((opX cs f v c n)) (((opX cs f v c n)) / 2147483648 != 0) (((opX cs f v c n)) == 0)), .int .i64 0, .bool false]) ?_ rfl ⟨by rw [finR_fin _ _ _ hw.out.1 hw.out.2]; try rfl, belRow (bel_chain hB.out _ _ _ _) (by omega) _⟩
    simp [results, Tryd.results31, asAddr, hres]
set_option maxRecDepth 100000 in
set_option maxHeartbeats 1000000 in
theorem exec_op0u1 (cs : Array Value) (hc : CpuOk cs) (v : Bool) (a b c : Nat) (n l : Int) (hr : rightB 1 true v a b 0 c n = true) (w : World) (hT : Tab w) :
    Calls Tryd.prog 31 #[.agg cs, ins 1 true v a b 0 c n, .int .u32 l] w fun e w' => e = .returned (.tuple #[.agg (fin (c21 cs) a ((opX cs 1 v c n) * 65536 % 4294967296)), .int .i64 0, .bool false]) ∧ Below w.heap.size w w' := by
  have hn := reck_n (by omega) hr
  have hn0 := hn.1
  have hn1 := hn.2
  clear hn
  have ha : a ≤ 15 := by have := (right_inv hr).1; omega
  have hbb : b ≤ 15 := by have := (right_inv hr).2.1; omega
  have hcc : c ≤ 15 := by have := (right_inv hr).2.2.1; omega
  obtain ⟨hrc, hrc0, hrc1⟩ := hc.rg (k := c) (by omega)
  obtain ⟨hrb, hrb0, hrb1⟩ := hc.rg (k := b) (by omega)
  obtain ⟨hX0, hX1⟩ := opX_bd hc 1 v hcc hn0 hn1
  have hot := or_top n hn0 hn1
  have HRC := Lib.hid hrc
  have HRB := Lib.hid hrb
  clear hrc hrb
  have HT : Hid (∀ W, Below w.heap.size w W → Tab W) := fun W hB => hT.below hB hT.lt
  clear hT
  obtain ⟨hpc, hp0, hp1⟩ := hc.pcV
  have HC := Lib.hid hc
  have HPC := Lib.hid hpc
  clear hc hpc
  unfold ins
  go_enter Tryd.func31, Tryd.ntmps31
  go_upto_region 3 with (go_at_call 43; refine (right_any _ _ _ _ _ _ _ _ _ (HT.out _ (by go_grown))).mono ?_; rintro e w1 ⟨rfl, hb1⟩; obtain ⟨h0, h1, h2, hs, hB⟩ := three hb1; clear hb1)
  have hl := load_cpu h0 HC.out.size
  have hst := store_new (w := w1) (Z := #[.int .u32 0, .int .u32 0, .int .u32 0, .int .u32 0, .int .u32 0, .int .u32 0, .int .u32 0, .int .u32 0, .int .u32 0, .int .u32 0, .int .u32 0, .int .u32 0, .int .u32 0, .int .u32 0, .int .u32 0, .int .u32 0, .int .u32 0, .bool false, .bool false, .bool false, .bool false, .int .u32 0]) (t := 39) rfl HC.out.size HC.out.one
  have h21 : w1.cell? ⟨w.heap.size, 21, none⟩ = some (.int .u32 (rgV cs 21)) := (h0.cell 21).trans HPC.out
  have key := exec_head h0 h1 h2 hs hB (.int .u32 ((rgV cs 21 + 4) % 4294967296))
  have hA := ((h0.old (.cells cs 39)).cell 21).trans HPC.out
  have hF := (h0.old (.cells cs 39)).frozen 21
  have H0 := Lib.hid h0
  have H1 := Lib.hid h1
  have HK := Lib.hid key
  clear h0 h1 h2 hB key
  go_upto_region 7 with fail
  clear hl hst h21 hA hF H0 H1
  obtain ⟨k0, k1, k2, k3, kB⟩ := HK.out
  clear HK
  generalize (w1.alloc (.cells cs 39)).setCell ⟨w.heap.size, 21, none⟩ (.int .u32 ((rgV cs 21 + 4) % 4294967296)) = W at k0 k1 k2 k3 kB ⊢
  have kT := HT.out W kB
  clear HT
  have k0 : Blk W w.heap.size (c21 cs) 39 := k0
  have i0 : W.cell? ⟨w.heap.size + 1, 0, none⟩ = some (.int .i64 1) := k1.cell 0
  have i1 : W.cell? ⟨w.heap.size + 1, 1, none⟩ = some (.bool true) := k1.cell 1
  have i2 : W.cell? ⟨w.heap.size + 1, 2, none⟩ = some (.bool v) := k1.cell 2
  have i3 : W.cell? ⟨w.heap.size + 1, 3, none⟩ = some (.int .i64 a) := k1.cell 3
  have i4 : W.cell? ⟨w.heap.size + 1, 4, none⟩ = some (.int .i64 b) := k1.cell 4
  have i5 : W.cell? ⟨w.heap.size + 1, 5, none⟩ = some (.int .i64 0) := k1.cell 5
  have i6 : W.cell? ⟨w.heap.size + 1, 6, none⟩ = some (.int .i64 c) := k1.cell 6
  have i7 : W.cell? ⟨w.heap.size + 1, 7, none⟩ = some (.int .i64 n) := k1.cell 7
  have oc := (k3.cell c).trans HRC.out
  have ob := (k3.cell b).trans HRB.out
  have K_k0 := Lib.hid k0
  clear k0
  have K_k1 := Lib.hid k1
  clear k1
  have K_k2 := Lib.hid k2
  clear k2
  have K_k3 := Lib.hid k3
  clear k3
  have K_kB := Lib.hid kB
  clear kB
  have K_kT := Lib.hid kT
  clear kT
  have K_i1 := Lib.hid i1
  clear i1
  have K_i3 := Lib.hid i3
  clear i3
  have K_i5 := Lib.hid i5
  clear i5
  go_upto_if 32 with fail
  go_cut [12] from 33 to 41 (fun s12 wx => s12 = .int .u32 (opX cs 1 v c n) ∧ W = wx)
  case first =>
    cases v
    · go_wp2_with fail
      go_meet
      exact ⟨rfl, rfl⟩
    · go_wp2_with fail
      go_meet
      exact ⟨rfl, rfl⟩
  case rest =>
    obtain ⟨rfl, rfl⟩ := hcut
    clear oc hot i6 i7
    have i1 := K_i1.out
    have i5 := K_i5.out
    go_upto_region 63 with fail
    obtain ⟨⟨xa, ta⟩, ⟨x17, t17⟩, ⟨x18, t18⟩, tf, hl, hst, hres⟩ := tailf K_k0.out K_k2.out (by omega) (by simp [c21, HC.out.size]) rfl (c21_one HC.out.one) a ha
    have hw : Hid (0 ≤ ((opX cs 1 v c n) * 65536 % 4294967296) ∧ ((opX cs 1 v c n) * 65536 % 4294967296) < 4294967296) := by unfold Hid; omega
    have hB := Lib.hid K_kB.out
    have i3 : W.cell? ⟨w.heap.size + 1, 3, none⟩ = some (.int .i64 a) := K_k1.out.cell 3
    have K_hres := Lib.hid hres
    clear hres
    go_wp2_with fail
    have hres := K_hres.out
    refine bodyPost_ret (v := .tuple #[.agg (finR (c21 cs) a ((opX cs 1 v c n) * 65536 % 4294967296) (((opX cs 1 v c n) * 65536 % 4294967296) / 2147483648 != 0) (((opX cs 1 v c n) * 65536 % 4294967296) == 0)), .int .i64 0, .bool false]) ?_ rfl ⟨by rw [finR_fin _ _ _ hw.out.1 hw.out.2]; try rfl, belRow (bel_chain hB.out _ _ _ _) (by omega) _⟩
    simp [results, Tryd.results31, asAddr, hres]
set_option maxRecDepth 100000 in
set_option maxHeartbeats 1000000 in
theorem exec_op0h (cs : Array Value) (hc : CpuOk cs) (a b c : Nat) (n l : Int) (hr : rightB 0 true false a b 0 c n = true) (w : World) (hT : Tab w) :
    Calls Tryd.prog 31 #[.agg cs, ins 0 true false a b 0 c n, .int .u32 l] w fun e w' => e = .returned (.tuple #[.agg (fin (c21 cs) a (rgV cs 16)), .int .i64 0, .bool false]) ∧ Below w.heap.size w w' := by
  have hn := reck_n (by omega) hr
  have hn0 := hn.1
  have hn1 := hn.2
  clear hn
  have ha : a ≤ 15 := by have := (right_inv hr).1; omega
  have hbb : b ≤ 15 := by have := (right_inv hr).2.1; omega
  have hcc : c ≤ 15 := by have := (right_inv hr).2.2.1; omega
  obtain ⟨hrc, hrc0, hrc1⟩ := hc.rg (k := c) (by omega)
  obtain ⟨hrb, hrb0, hrb1⟩ := hc.rg (k := b) (by omega)
  obtain ⟨hX0, hX1⟩ := opX_bd hc 0 false hcc hn0 hn1
  have hot := or_top n hn0 hn1
  have HRC := Lib.hid hrc
  have HRB := Lib.hid hrb
  clear hrc hrb
  have HT : Hid (∀ W, Below w.heap.size w W → Tab W) := fun W hB => hT.below hB hT.lt
  clear hT
  obtain ⟨hpc, hp0, hp1⟩ := hc.pcV
  have HC := Lib.hid hc
  have HPC := Lib.hid hpc
  clear hc hpc
  unfold ins
  go_enter Tryd.func31, Tryd.ntmps31
  go_upto_region 3 with (go_at_call 43; refine (right_any _ _ _ _ _ _ _ _ _ (HT.out _ (by go_grown))).mono ?_; rintro e w1 ⟨rfl, hb1⟩; obtain ⟨h0, h1, h2, hs, hB⟩ := three hb1; clear hb1)
  have hl := load_cpu h0 HC.out.size
  have hst := store_new (w := w1) (Z := #[.int .u32 0, .int .u32 0, .int .u32 0, .int .u32 0, .int .u32 0, .int .u32 0, .int .u32 0, .int .u32 0, .int .u32 0, .int .u32 0, .int .u32 0, .int .u32 0, .int .u32 0, .int .u32 0, .int .u32 0, .int .u32 0, .int .u32 0, .bool false, .bool false, .bool false, .bool false, .int .u32 0]) (t := 39) rfl HC.out.size HC.out.one
  have h21 : w1.cell? ⟨w.heap.size, 21, none⟩ = some (.int .u32 (rgV cs 21)) := (h0.cell 21).trans HPC.out
  have key := exec_head h0 h1 h2 hs hB (.int .u32 ((rgV cs 21 + 4) % 4294967296))
  have hA := ((h0.old (.cells cs 39)).cell 21).trans HPC.out
  have hF := (h0.old (.cells cs 39)).frozen 21
  have H0 := Lib.hid h0
  have H1 := Lib.hid h1
  have HK := Lib.hid key
  clear h0 h1 h2 hB key
  go_upto_region 7 with fail
  clear hl hst h21 hA hF H0 H1
  obtain ⟨k0, k1, k2, k3, kB⟩ := HK.out
  clear HK
  generalize (w1.alloc (.cells cs 39)).setCell ⟨w.heap.size, 21, none⟩ (.int .u32 ((rgV cs 21 + 4) % 4294967296)) = W at k0 k1 k2 k3 kB ⊢
  have kT := HT.out W kB
  clear HT
  have k0 : Blk W w.heap.size (c21 cs) 39 := k0
  have i0 : W.cell? ⟨w.heap.size + 1, 0, none⟩ = some (.int .i64 0) := k1.cell 0
  have i1 : W.cell? ⟨w.heap.size + 1, 1, none⟩ = some (.bool true) := k1.cell 1
  have i2 : W.cell? ⟨w.heap.size + 1, 2, none⟩ = some (.bool false) := k1.cell 2
  have i3 : W.cell? ⟨w.heap.size + 1, 3, none⟩ = some (.int .i64 a) := k1.cell 3
  have i4 : W.cell? ⟨w.heap.size + 1, 4, none⟩ = some (.int .i64 b) := k1.cell 4
  have i5 : W.cell? ⟨w.heap.size + 1, 5, none⟩ = some (.int .i64 0) := k1.cell 5
  have i6 : W.cell? ⟨w.heap.size + 1, 6, none⟩ = some (.int .i64 c) := k1.cell 6
  have i7 : W.cell? ⟨w.heap.size + 1, 7, none⟩ = some (.int .i64 n) := k1.cell 7
  have oc := (k3.cell c).trans HRC.out
  have ob := (k3.cell b).trans HRB.out
  have o16 := (k3.cell 16).trans HC.out.hV.1
  have K_k0 := Lib.hid k0
  clear k0
  have K_k1 := Lib.hid k1
  clear k1
  have K_k2 := Lib.hid k2
  clear k2
  have K_k3 := Lib.hid k3
  clear k3
  have K_kB := Lib.hid kB
  clear kB
  have K_kT := Lib.hid kT
  clear kT
  have K_i1 := Lib.hid i1
  clear i1
  have K_i3 := Lib.hid i3
  clear i3
  have K_i5 := Lib.hid i5
  clear i5
  go_upto_if 32 with fail
  go_cut [12] from 33 to 41 (fun s12 wx => s12 = .int .u32 (opX cs 0 false c n) ∧ W = wx)
  case first =>
    go_wp2_with fail
    go_meet
    exact ⟨rfl, rfl⟩
  case rest =>
    obtain ⟨rfl, rfl⟩ := hcut
    clear oc hot i6 i7
    have i1 := K_i1.out
    have i5 := K_i5.out
    go_upto_region 63 with fail
    obtain ⟨⟨xa, ta⟩, ⟨x17, t17⟩, ⟨x18, t18⟩, tf, hl, hst, hres⟩ := tailf K_k0.out K_k2.out (by omega) (by simp [c21, HC.out.size]) rfl (c21_one HC.out.one) a ha
    have hw : Hid (0 ≤ (rgV cs 16) ∧ (rgV cs 16) < 4294967296) := HC.out.hV.2
    have hB := Lib.hid K_kB.out
    have i3 : W.cell? ⟨w.heap.size + 1, 3, none⟩ = some (.int .i64 a) := K_k1.out.cell 3
    have K_hres := Lib.hid hres
    clear hres
    go_wp2_with fail
    have hres := K_hres.out
    refine bodyPost_ret (v := .tuple #[.agg (finR (c21 cs) a (rgV cs 16) ((rgV cs 16) / 2147483648 != 0) ((rgV cs 16) == 0)), .int .i64 0, .bool false]) ?_ rfl ⟨by rw [finR_fin _ _ _ hw.out.1 hw.out.2]; try rfl, belRow (bel_chain hB.out _ _ _ _) (by omega) _⟩
    simp [results, Tryd.results31, asAddr, hres]
set_option maxRecDepth 100000 in
set_option maxHeartbeats 1000000 in
theorem exec_op0f (cs : Array Value) (hc : CpuOk cs) (a b c : Nat) (n l : Int) (hr : rightB 0 true true a b 0 c n = true) (w : World) (hT : Tab w) :
    Calls Tryd.prog 31 #[.agg cs, ins 0 true true a b 0 c n, .int .u32 l] w fun e w' => e = .returned (.tuple #[.agg (fin (c21 cs) a (flagsV (flV cs 17) (flV cs 18) (flV cs 19) (flV cs 20))), .int .i64 0, .bool false]) ∧ Below w.heap.size w w' := by
  have hn := reck_n (by omega) hr
  have hn0 := hn.1
  have hn1 := hn.2
  clear hn
  have ha : a ≤ 15 := by have := (right_inv hr).1; omega
  have hbb : b ≤ 15 := by have := (right_inv hr).2.1; omega
  have hcc : c ≤ 15 := by have := (right_inv hr).2.2.1; omega
  obtain ⟨hrc, hrc0, hrc1⟩ := hc.rg (k := c) (by omega)
  obtain ⟨hrb, hrb0, hrb1⟩ := hc.rg (k := b) (by omega)
  obtain ⟨hX0, hX1⟩ := opX_bd hc 0 true hcc hn0 hn1
  have hot := or_top n hn0 hn1
  have HRC := Lib.hid hrc
  have HRB := Lib.hid hrb
  clear hrc hrb
  have HT : Hid (∀ W, Below w.heap.size w W → Tab W) := fun W hB => hT.below hB hT.lt
  clear hT
  obtain ⟨hpc, hp0, hp1⟩ := hc.pcV
  have HC := Lib.hid hc
  have HPC := Lib.hid hpc
  clear hc hpc
  unfold ins
  go_enter Tryd.func31, Tryd.ntmps31
  go_upto_region 3 with (go_at_call 43; refine (right_any _ _ _ _ _ _ _ _ _ (HT.out _ (by go_grown))).mono ?_; rintro e w1 ⟨rfl, hb1⟩; obtain ⟨h0, h1, h2, hs, hB⟩ := three hb1; clear hb1)
  have hl := load_cpu h0 HC.out.size
  have hst := store_new (w := w1) (Z := #[.int .u32 0, .int .u32 0, .int .u32 0, .int .u32 0, .int .u32 0, .int .u32 0, .int .u32 0, .int .u32 0, .int .u32 0, .int .u32 0, .int .u32 0, .int .u32 0, .int .u32 0, .int .u32 0, .int .u32 0, .int .u32 0, .int .u32 0, .bool false, .bool false, .bool false, .bool false, .int .u32 0]) (t := 39) rfl HC.out.size HC.out.one
  have h21 : w1.cell? ⟨w.heap.size, 21, none⟩ = some (.int .u32 (rgV cs 21)) := (h0.cell 21).trans HPC.out
  have key := exec_head h0 h1 h2 hs hB (.int .u32 ((rgV cs 21 + 4) % 4294967296))
  have hA := ((h0.old (.cells cs 39)).cell 21).trans HPC.out
  have hF := (h0.old (.cells cs 39)).frozen 21
  have H0 := Lib.hid h0
  have H1 := Lib.hid h1
  have HK := Lib.hid key
  clear h0 h1 h2 hB key
  go_upto_region 7 with fail
  clear hl hst h21 hA hF H0 H1
  obtain ⟨k0, k1, k2, k3, kB⟩ := HK.out
  clear HK
  generalize (w1.alloc (.cells cs 39)).setCell ⟨w.heap.size, 21, none⟩ (.int .u32 ((rgV cs 21 + 4) % 4294967296)) = W at k0 k1 k2 k3 kB ⊢
  have kT := HT.out W kB
  clear HT
  have k0 : Blk W w.heap.size (c21 cs) 39 := k0
  have i0 : W.cell? ⟨w.heap.size + 1, 0, none⟩ = some (.int .i64 0) := k1.cell 0
  have i1 : W.cell? ⟨w.heap.size + 1, 1, none⟩ = some (.bool true) := k1.cell 1
  have i2 : W.cell? ⟨w.heap.size + 1, 2, none⟩ = some (.bool true) := k1.cell 2
  have i3 : W.cell? ⟨w.heap.size + 1, 3, none⟩ = some (.int .i64 a) := k1.cell 3
  have i4 : W.cell? ⟨w.heap.size + 1, 4, none⟩ = some (.int .i64 b) := k1.cell 4
  have i5 : W.cell? ⟨w.heap.size + 1, 5, none⟩ = some (.int .i64 0) := k1.cell 5
  have i6 : W.cell? ⟨w.heap.size + 1, 6, none⟩ = some (.int .i64 c) := k1.cell 6
  have i7 : W.cell? ⟨w.heap.size + 1, 7, none⟩ = some (.int .i64 n) := k1.cell 7
  have oc := (k3.cell c).trans HRC.out
  have ob := (k3.cell b).trans HRB.out
  have o17 := (k3.cell 17).trans HC.out.nV
  have o18 := (k3.cell 18).trans HC.out.zV
  have o19 := (k3.cell 19).trans HC.out.cV
  have o20 := (k3.cell 20).trans HC.out.vV
  have K_k0 := Lib.hid k0
  clear k0
  have K_k1 := Lib.hid k1
  clear k1
  have K_k2 := Lib.hid k2
  clear k2
  have K_k3 := Lib.hid k3
  clear k3
  have K_kB := Lib.hid kB
  clear kB
  have K_kT := Lib.hid kT
  clear kT
  have K_i1 := Lib.hid i1
  clear i1
  have K_i3 := Lib.hid i3
  clear i3
  have K_i5 := Lib.hid i5
  clear i5
  go_upto_if 32 with fail
  go_cut [12] from 33 to 41 (fun s12 wx => s12 = .int .u32 (opX cs 0 true c n) ∧ W = wx)
  case first =>
    go_wp2_with fail
    go_meet
    exact ⟨rfl, rfl⟩
  case rest =>
    obtain ⟨rfl, rfl⟩ := hcut
    clear oc hot i6 i7
    have i1 := K_i1.out
    have i5 := K_i5.out
    go_upto_region 22 with fail
    go_big_quiet ((go_at_call 47; exact Calls.quiet_of_same (flag_any _ _ (by omega) (by omega) _)))
    go_upto_region 63 with fail
    obtain ⟨⟨xa, ta⟩, ⟨x17, t17⟩, ⟨x18, t18⟩, tf, hl, hst, hres⟩ := tailf (Blk.drewN K_k0.out nq) (Blk.drewN K_k2.out nq) (by omega) (by simp [c21, HC.out.size]) rfl (c21_one HC.out.one) a ha
    have hw : Hid (0 ≤ (bits .or .u32 (bits .or .u32 (bits .or .u32 (flagV (flV cs 17) 31) (flagV (flV cs 18) 30)) (flagV (flV cs 19) 29)) (flagV (flV cs 20) 28)) ∧ (bits .or .u32 (bits .or .u32 (bits .or .u32 (flagV (flV cs 17) 31) (flagV (flV cs 18) 30)) (flagV (flV cs 19) 29)) (flagV (flV cs 20) 28)) < 4294967296) := u32_bits_bd .or _ _
    have hB := Lib.hid (belN K_kB.out nq)
    have i3 : (W.drewN nq).cell? ⟨w.heap.size + 1, 3, none⟩ = some (.int .i64 a) := (Blk.drewN K_k1.out nq).cell 3
    have K_hres := Lib.hid hres
    clear hres
    go_wp2_with fail
    have hres := K_hres.out
    refine bodyPost_ret (v := .tuple #[.agg (finR (c21 cs) a (bits .or .u32 (bits .or .u32 (bits .or .u32 (flagV (flV cs 17) 31) (flagV (flV cs 18) 30)) (flagV (flV cs 19) 29)) (flagV (flV cs 20) 28)) ((bits .or .u32 (bits .or .u32 (bits .or .u32 (flagV (flV cs 17) 31) (flagV (flV cs 18) 30)) (flagV (flV cs 19) 29)) (flagV (flV cs 20) 28)) / 2147483648 != 0) ((bits .or .u32 (bits .or .u32 (bits .or .u32 (flagV (flV cs 17) 31) (flagV (flV cs 18) 30)) (flagV (flV cs 19) 29)) (flagV (flV cs 20) 28)) == 0)), .int .i64 0, .bool false]) ?_ rfl ⟨by rw [finR_fin _ _ _ hw.out.1 hw.out.2]; try rfl, belRow (bel_chain hB.out _ _ _ _) (by omega) _⟩
    simp [results, Tryd.results31, asAddr, hres]
set_option maxRecDepth 100000 in
set_option maxHeartbeats 1000000 in
theorem exec_op15 (cs : Array Value) (hc : CpuOk cs) (a b c : Nat) (n l : Int) (hr : rightB 1 false false a b 15 c n = true) (w : World) (hT : Tab w) :
    Calls Tryd.prog 31 #[.agg cs, ins 1 false false a b 15 c n, .int .u32 l] w fun e w' => e = .returned (.tuple #[.agg cs, .int .i64 n, .bool true]) ∧ Below w.heap.size w w' := by
  have hn := reck_n (by omega) hr
  have hn0 := hn.1
  have hn1 := hn.2
  clear hn
  have ha : a ≤ 15 := by have := (right_inv hr).1; omega
  have hbb : b ≤ 15 := by have := (right_inv hr).2.1; omega
  have hcc : c ≤ 15 := by have := (right_inv hr).2.2.1; omega
  obtain ⟨hrc, hrc0, hrc1⟩ := hc.rg (k := c) (by omega)
  obtain ⟨hrb, hrb0, hrb1⟩ := hc.rg (k := b) (by omega)
  obtain ⟨hX0, hX1⟩ := opX_bd hc 1 false hcc hn0 hn1
  have hot := or_top n hn0 hn1
  have HRC := Lib.hid hrc
  have HRB := Lib.hid hrb
  clear hrc hrb
  have HT : Hid (∀ W, Below w.heap.size w W → Tab W) := fun W hB => hT.below hB hT.lt
  clear hT
  obtain ⟨hpc, hp0, hp1⟩ := hc.pcV
  have HC := Lib.hid hc
  have HPC := Lib.hid hpc
  clear hc hpc
  unfold ins
  go_enter Tryd.func31, Tryd.ntmps31
  go_upto_region 3 with (go_at_call 43; refine (right_any _ _ _ _ _ _ _ _ _ (HT.out _ (by go_grown))).mono ?_; rintro e w1 ⟨rfl, hb1⟩; obtain ⟨h0, h1, h2, hs, hB⟩ := three hb1; clear hb1)
  have hl := load_cpu h0 HC.out.size
  have hst := store_new (w := w1) (Z := #[.int .u32 0, .int .u32 0, .int .u32 0, .int .u32 0, .int .u32 0, .int .u32 0, .int .u32 0, .int .u32 0, .int .u32 0, .int .u32 0, .int .u32 0, .int .u32 0, .int .u32 0, .int .u32 0, .int .u32 0, .int .u32 0, .int .u32 0, .bool false, .bool false, .bool false, .bool false, .int .u32 0]) (t := 39) rfl HC.out.size HC.out.one
  have h21 : w1.cell? ⟨w.heap.size, 21, none⟩ = some (.int .u32 (rgV cs 21)) := (h0.cell 21).trans HPC.out
  have key := exec_head h0 h1 h2 hs hB (.int .u32 ((rgV cs 21 + 4) % 4294967296))
  have hA := ((h0.old (.cells cs 39)).cell 21).trans HPC.out
  have hF := (h0.old (.cells cs 39)).frozen 21
  have H0 := Lib.hid h0
  have H1 := Lib.hid h1
  have HK := Lib.hid key
  clear h0 h1 h2 hB key
  go_upto_region 7 with fail
  clear hl hst h21 hA hF H0 H1
  obtain ⟨k0, k1, k2, k3, kB⟩ := HK.out
  clear HK
  generalize (w1.alloc (.cells cs 39)).setCell ⟨w.heap.size, 21, none⟩ (.int .u32 ((rgV cs 21 + 4) % 4294967296)) = W at k0 k1 k2 k3 kB ⊢
  have kT := HT.out W kB
  clear HT
  have k0 : Blk W w.heap.size (c21 cs) 39 := k0
  have i0 : W.cell? ⟨w.heap.size + 1, 0, none⟩ = some (.int .i64 1) := k1.cell 0
  have i1 : W.cell? ⟨w.heap.size + 1, 1, none⟩ = some (.bool false) := k1.cell 1
  have i2 : W.cell? ⟨w.heap.size + 1, 2, none⟩ = some (.bool false) := k1.cell 2
  have i3 : W.cell? ⟨w.heap.size + 1, 3, none⟩ = some (.int .i64 a) := k1.cell 3
  have i4 : W.cell? ⟨w.heap.size + 1, 4, none⟩ = some (.int .i64 b) := k1.cell 4
  have i5 : W.cell? ⟨w.heap.size + 1, 5, none⟩ = some (.int .i64 15) := k1.cell 5
  have i6 : W.cell? ⟨w.heap.size + 1, 6, none⟩ = some (.int .i64 c) := k1.cell 6
  have i7 : W.cell? ⟨w.heap.size + 1, 7, none⟩ = some (.int .i64 n) := k1.cell 7
  have oc := (k3.cell c).trans HRC.out
  have ob := (k3.cell b).trans HRB.out
  have K_k0 := Lib.hid k0
  clear k0
  have K_k1 := Lib.hid k1
  clear k1
  have K_k2 := Lib.hid k2
  clear k2
  have K_k3 := Lib.hid k3
  clear k3
  have K_kB := Lib.hid kB
  clear kB
  have K_kT := Lib.hid kT
  clear kT
  have K_i1 := Lib.hid i1
  clear i1
  have K_i3 := Lib.hid i3
  clear i3
  have K_i5 := Lib.hid i5
  clear i5
  go_upto_if 32 with fail
  go_cut [12] from 33 to 41 (fun s12 wx => s12 = .int .u32 (opX cs 1 false c n) ∧ W = wx)
  case first =>
    go_wp2_with fail
    go_meet
    exact ⟨rfl, rfl⟩
  case rest =>
    obtain ⟨rfl, rfl⟩ := hcut
    have K_i7 := Lib.hid i7
    clear oc hot i0 i2 i6 i7
    have i1 := K_i1.out
    have i5 := K_i5.out
    go_upto_region 48 with fail
    have i7 := K_i7.out
    have hl := load_cpu K_k3.out.drew HC.out.size
    have hst := store_cpu K_k2.out.drew rfl HC.out.size HC.out.one
    have hres := loadVar_cpu (Blk.setRow K_k2.out.drew cs) HC.out.size
    have K_hres := Lib.hid hres
    have hB := Lib.hid (belRow K_kB.out.drew (g := w.heap.size + 1 + 1) (by omega) cs)
    have i7' : (W.drew.setRow (w.heap.size + 1 + 1) cs).cell? ⟨w.heap.size + 1, 7, none⟩ = some (.int .i64 n) := (Blk.farRow K_k1.out.drew (by omega) cs).cell 7
    clear hres
    go_region
    go_wp2_with fail
    have hres := K_hres.out
    refine bodyPost_ret (v := .tuple #[.agg cs, .int .i64 n, .bool true]) ?_ rfl ⟨rfl, hB.out⟩
    simp [results, Tryd.results31, asAddr, hres]
end Go.Proofs.YtgcknekhimpfkaaDoor
