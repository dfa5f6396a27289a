/- The document's Exec: no instruction, branches, memory. -/
import Derived.Test.YtgcknekhimpfkaaGreatDoorRefJ
import Derived.RegionTactic
import Derived.ChangeAlike
namespace Go.Proofs.YtgcknekhimpfkaaGreatDoor
open Go Go.RowKit Go.Lib Go.Proofs.YtgcknekhimpfkaaGreatDoor.Pl
set_option maxHeartbeats 1000000
set_option linter.unusedVariables false
set_option linter.unusedSimpArgs false
attribute [local go_sem ↓] exec_load_cpu exec_store_cpu
theorem exGo_sz {cs : Array Value} (h : CpuOk cs) (u v : Bool) (a c : Nat) (n : Int) : (exGo cs u v a c n).size = 22 ∧ OneRow (exGo cs u v a c n) := by
 unfold exGo c21
 split
 ·split
  ·exact ⟨by simp [h.size], ((h.one.set _ rfl).set _ rfl).set _ rfl⟩
  ·exact ⟨by simp [h.size], (h.one.set _ rfl).set _ rfl⟩
 ·exact ⟨by simp [h.size], h.one.set _ rfl⟩
set_option maxRecDepth 100000 in
theorem rexec_no (cs : Array Value) (hc : CpuOk cs) (f : Int) (u v : Bool) (a b op c n : Int) (l : Int) (hl0 : 0 ≤ l) (hl1 : l < 4294967296) (hr : rightB f u v a b op c n = false) (w : World) :
 Calls Tryz.prog 68 #[.agg cs, ins f u v a b op c n, .int .u32 l] w fun e w' => e = .returned (.tuple #[.agg cs, .int .i64 0, .bool false]) ∧ Below w.heap.size w w' := by
 have HC := hid hc
 clear hc
 unfold ins
 obtain ⟨h0, h1, h2, hs, hB⟩ := three_made w cs #[.int .i64 f, .bool u, .bool v, .int .i64 a, .int .i64 b, .int .i64 op, .int .i64 c, .int .i64 n] #[.int .u32 0, .int .u32 0, .int .u32 0, .int .u32 0, .int .u32 0, .int .u32 0, .int .u32 0, .int .u32 0, .int .u32 0, .int .u32 0, .int .u32 0, .int .u32 0, .int .u32 0, .int .u32 0, .int .u32 0, .int .u32 0, .int .u32 0, .bool false, .bool false, .bool false, .bool false, .int .u32 0] 50 92 50
 have K0 := hid h0
 have K1 := hid h1
 have K2 := hid h2
 have HS := hid hs
 have KB := hid hB
 clear h0 h1 h2 hs hB
 go_enter Tryz.func68, Tryz.ntmps68
 go_upto_region 1 with fail
 generalize ((w.alloc (.cells cs 50)).alloc (.cells #[.int .i64 f, .bool u, .bool v, .int .i64 a, .int .i64 b, .int .i64 op, .int .i64 c, .int .i64 n] 92)).alloc (.cells #[.int .u32 0, .int .u32 0, .int .u32 0, .int .u32 0, .int .u32 0, .int .u32 0, .int .u32 0, .int .u32 0, .int .u32 0, .int .u32 0, .int .u32 0, .int .u32 0, .int .u32 0, .int .u32 0, .int .u32 0, .int .u32 0, .int .u32 0, .bool false, .bool false, .bool false, .bool false, .int .u32 0] 50) = W at K0 K1 K2 HS KB ⊢
 have i0 : W.cell? ⟨w.heap.size + 1, 0, none⟩ = some (.int .i64 f) := K1.out.cell 0
 have i1 : W.cell? ⟨w.heap.size + 1, 1, none⟩ = some (.bool u) := K1.out.cell 1
 have i2 : W.cell? ⟨w.heap.size + 1, 2, none⟩ = some (.bool v) := K1.out.cell 2
 have i3 : W.cell? ⟨w.heap.size + 1, 3, none⟩ = some (.int .i64 a) := K1.out.cell 3
 have i4 : W.cell? ⟨w.heap.size + 1, 4, none⟩ = some (.int .i64 b) := K1.out.cell 4
 have i5 : W.cell? ⟨w.heap.size + 1, 5, none⟩ = some (.int .i64 op) := K1.out.cell 5
 have i6 : W.cell? ⟨w.heap.size + 1, 6, none⟩ = some (.int .i64 c) := K1.out.cell 6
 have i7 : W.cell? ⟨w.heap.size + 1, 7, none⟩ = some (.int .i64 n) := K1.out.cell 7
 go_upto_if 16 with (go_at_call 86; (refine (rright_any _ _ _ _ _ _ _ _ _).mono ?_; rintro e w1 ⟨rfl, hb1⟩; have M0 := hid (K0.out.step hb1); have M1 := hid (K1.out.step hb1); have M2 := hid (K2.out.step hb1); have MB := hid (KB.out.trans (hb1.mono KB.out.size)); have MS : Hid (w.heap.size + 3 ≤ w1.heap.size) := (by have := hb1.size; have := HS.out; unfold Hid; omega); clear hb1))
 clear i0 i1 i2 i3 i4 i5 i6 i7 K0 K1 K2 HS KB
 have hl := load_cpu M0.out HC.out.size
 have hst := store_cpu M2.out rfl HC.out.size HC.out.one
 have KRES := hid (loadVar_cpu (M2.out.setRow cs) HC.out.size)
 go_wp2_with fail
 have hres := KRES.out
 refine bodyPost_ret (v := .tuple #[.agg cs, .int .i64 0, .bool false]) ?_ rfl ⟨rfl, belRow MB.out (by omega) _⟩
 simp [results, Tryz.results68, asAddr, hres]
set_option maxRecDepth 100000 in
theorem rexec_3 (cs : Array Value) (hc : CpuOk cs) (u v : Bool) (a c : Nat) (n : Int) (l : Int) (hl0 : 0 ≤ l) (hl1 : l < 4294967296) (hr : rightB 3 u v a 0 0 c n = true) (w : World) :
 Calls Tryz.prog 68 #[.agg cs, ins 3 u v a 0 0 c n, .int .u32 l] w fun e w' => e = .returned (.tuple #[.agg (exGo cs u v a c n), .int .i64 0, .bool false]) ∧ Below w.heap.size w w' := by
 have HC := hid hc
 clear hc
 have HR := hid hr
 have HX := hid (exGo_sz HC.out u v a c n)
 unfold ins
 obtain ⟨h0, h1, h2, hs, hB⟩ := three_made w cs #[.int .i64 3, .bool u, .bool v, .int .i64 a, .int .i64 0, .int .i64 0, .int .i64 c, .int .i64 n] #[.int .u32 0, .int .u32 0, .int .u32 0, .int .u32 0, .int .u32 0, .int .u32 0, .int .u32 0, .int .u32 0, .int .u32 0, .int .u32 0, .int .u32 0, .int .u32 0, .int .u32 0, .int .u32 0, .int .u32 0, .int .u32 0, .int .u32 0, .bool false, .bool false, .bool false, .bool false, .int .u32 0] 50 92 50
 have K0 := hid h0
 have K1 := hid h1
 have K2 := hid h2
 have HS := hid hs
 have KB := hid hB
 clear h0 h1 h2 hs hB
 go_enter Tryz.func68, Tryz.ntmps68
 go_upto_region 1 with fail
 generalize ((w.alloc (.cells cs 50)).alloc (.cells #[.int .i64 3, .bool u, .bool v, .int .i64 a, .int .i64 0, .int .i64 0, .int .i64 c, .int .i64 n] 92)).alloc (.cells #[.int .u32 0, .int .u32 0, .int .u32 0, .int .u32 0, .int .u32 0, .int .u32 0, .int .u32 0, .int .u32 0, .int .u32 0, .int .u32 0, .int .u32 0, .int .u32 0, .int .u32 0, .int .u32 0, .int .u32 0, .int .u32 0, .int .u32 0, .bool false, .bool false, .bool false, .bool false, .int .u32 0] 50) = W at K0 K1 K2 HS KB ⊢
 have i0 : W.cell? ⟨w.heap.size + 1, 0, none⟩ = some (.int .i64 3) := K1.out.cell 0
 have i1 : W.cell? ⟨w.heap.size + 1, 1, none⟩ = some (.bool u) := K1.out.cell 1
 have i2 : W.cell? ⟨w.heap.size + 1, 2, none⟩ = some (.bool v) := K1.out.cell 2
 have i3 : W.cell? ⟨w.heap.size + 1, 3, none⟩ = some (.int .i64 a) := K1.out.cell 3
 have i4 : W.cell? ⟨w.heap.size + 1, 4, none⟩ = some (.int .i64 0) := K1.out.cell 4
 have i5 : W.cell? ⟨w.heap.size + 1, 5, none⟩ = some (.int .i64 0) := K1.out.cell 5
 have i6 : W.cell? ⟨w.heap.size + 1, 6, none⟩ = some (.int .i64 c) := K1.out.cell 6
 have i7 : W.cell? ⟨w.heap.size + 1, 7, none⟩ = some (.int .i64 n) := K1.out.cell 7
 go_upto_if 16 with (go_at_call 86; (refine (rright_any _ _ _ _ _ _ _ _ _).mono ?_; rintro e w1 ⟨rfl, hb1⟩; have M0 := hid (K0.out.step hb1); have M1 := hid (K1.out.step hb1); have M2 := hid (K2.out.step hb1); have MB := hid (KB.out.trans (hb1.mono KB.out.size)); have MS : Hid (w.heap.size + 3 ≤ w1.heap.size) := (by have := hb1.size; have := HS.out; unfold Hid; omega); clear hb1))
 clear i0 i1 i2 i3 i4 i5 i6 i7 K0 K1 K2 HS KB
 have i0 : w1.cell? ⟨w.heap.size + 1, 0, none⟩ = some (.int .i64 3) := M1.out.cell 0
 have i1 : w1.cell? ⟨w.heap.size + 1, 1, none⟩ = some (.bool u) := M1.out.cell 1
 have i2 : w1.cell? ⟨w.heap.size + 1, 2, none⟩ = some (.bool v) := M1.out.cell 2
 have i3 : w1.cell? ⟨w.heap.size + 1, 3, none⟩ = some (.int .i64 a) := M1.out.cell 3
 have i4 : w1.cell? ⟨w.heap.size + 1, 4, none⟩ = some (.int .i64 0) := M1.out.cell 4
 have i5 : w1.cell? ⟨w.heap.size + 1, 5, none⟩ = some (.int .i64 0) := M1.out.cell 5
 have i6 : w1.cell? ⟨w.heap.size + 1, 6, none⟩ = some (.int .i64 c) := M1.out.cell 6
 have i7 : w1.cell? ⟨w.heap.size + 1, 7, none⟩ = some (.int .i64 n) := M1.out.cell 7
 have hl := load_cpu M0.out HC.out.size
 go_wp2_with (go_at_call 92; (refine (goes_any cs HC.out u v a c n HR.out _).mono ?_; rintro e w2 ⟨rfl, hb2⟩; have N2 := hid (M2.out.step hb2); have NB := hid (MB.out.trans (hb2.mono MB.out.size)); have hst := store_cpu (cs := exGo cs u v a c n) N2.out rfl HX.out.1 HX.out.2; have KRES := hid (loadVar_cpu (N2.out.setRow (exGo cs u v a c n)) HX.out.1); clear hb2))
 have hres := KRES.out
 refine bodyPost_ret (v := .tuple #[.agg (exGo cs u v a c n), .int .i64 0, .bool false]) ?_ rfl ⟨rfl, belRow NB.out (by omega) _⟩
 simp [results, Tryz.results68, asAddr, hres]
set_option maxRecDepth 100000 in
theorem rexec_2u (cs : Array Value) (hc : CpuOk cs) (v : Bool) (a b : Nat) (n : Int) (l : Int) (hl0 : 0 ≤ l) (hl1 : l < 4294967296) (hr : rightB 2 true v a b 0 0 n = true) (w : World) :
 Calls Tryz.prog 68 #[.agg cs, ins 2 true v a b 0 0 n, .int .u32 l] w fun e w' => e = .returned (.tuple #[.agg (c21 cs), .int .i64 0, .bool false]) ∧ Below w.heap.size w w' := by
 have HC := hid hc
 clear hc
 unfold ins
 obtain ⟨h0, h1, h2, hs, hB⟩ := three_made w cs #[.int .i64 2, .bool true, .bool v, .int .i64 a, .int .i64 b, .int .i64 0, .int .i64 0, .int .i64 n] #[.int .u32 0, .int .u32 0, .int .u32 0, .int .u32 0, .int .u32 0, .int .u32 0, .int .u32 0, .int .u32 0, .int .u32 0, .int .u32 0, .int .u32 0, .int .u32 0, .int .u32 0, .int .u32 0, .int .u32 0, .int .u32 0, .int .u32 0, .bool false, .bool false, .bool false, .bool false, .int .u32 0] 50 92 50
 have K0 := hid h0
 have K1 := hid h1
 have K2 := hid h2
 have HS := hid hs
 have KB := hid hB
 clear h0 h1 h2 hs hB
 go_enter Tryz.func68, Tryz.ntmps68
 go_upto_region 1 with fail
 generalize ((w.alloc (.cells cs 50)).alloc (.cells #[.int .i64 2, .bool true, .bool v, .int .i64 a, .int .i64 b, .int .i64 0, .int .i64 0, .int .i64 n] 92)).alloc (.cells #[.int .u32 0, .int .u32 0, .int .u32 0, .int .u32 0, .int .u32 0, .int .u32 0, .int .u32 0, .int .u32 0, .int .u32 0, .int .u32 0, .int .u32 0, .int .u32 0, .int .u32 0, .int .u32 0, .int .u32 0, .int .u32 0, .int .u32 0, .bool false, .bool false, .bool false, .bool false, .int .u32 0] 50) = W at K0 K1 K2 HS KB ⊢
 have i0 : W.cell? ⟨w.heap.size + 1, 0, none⟩ = some (.int .i64 2) := K1.out.cell 0
 have i1 : W.cell? ⟨w.heap.size + 1, 1, none⟩ = some (.bool true) := K1.out.cell 1
 have i2 : W.cell? ⟨w.heap.size + 1, 2, none⟩ = some (.bool v) := K1.out.cell 2
 have i3 : W.cell? ⟨w.heap.size + 1, 3, none⟩ = some (.int .i64 a) := K1.out.cell 3
 have i4 : W.cell? ⟨w.heap.size + 1, 4, none⟩ = some (.int .i64 b) := K1.out.cell 4
 have i5 : W.cell? ⟨w.heap.size + 1, 5, none⟩ = some (.int .i64 0) := K1.out.cell 5
 have i6 : W.cell? ⟨w.heap.size + 1, 6, none⟩ = some (.int .i64 0) := K1.out.cell 6
 have i7 : W.cell? ⟨w.heap.size + 1, 7, none⟩ = some (.int .i64 n) := K1.out.cell 7
 go_upto_if 16 with (go_at_call 86; (refine (rright_any _ _ _ _ _ _ _ _ _).mono ?_; rintro e w1 ⟨rfl, hb1⟩; have M0 := hid (K0.out.step hb1); have M1 := hid (K1.out.step hb1); have M2 := hid (K2.out.step hb1); have MB := hid (KB.out.trans (hb1.mono KB.out.size)); have MS : Hid (w.heap.size + 3 ≤ w1.heap.size) := (by have := hb1.size; have := HS.out; unfold Hid; omega); clear hb1))
 clear i0 i1 i2 i3 i4 i5 i6 i7 K0 K1 K2 HS KB
 have i0 : w1.cell? ⟨w.heap.size + 1, 0, none⟩ = some (.int .i64 2) := M1.out.cell 0
 have hl := load_cpu M0.out HC.out.size
 have hst := store_new (w := w1) (Z := #[.int .u32 0, .int .u32 0, .int .u32 0, .int .u32 0, .int .u32 0, .int .u32 0, .int .u32 0, .int .u32 0, .int .u32 0, .int .u32 0, .int .u32 0, .int .u32 0, .int .u32 0, .int .u32 0, .int .u32 0, .int .u32 0, .int .u32 0, .bool false, .bool false, .bool false, .bool false, .int .u32 0]) (t := 50) rfl HC.out.size HC.out.one
 go_upto_region 11 with fail
 have N0 := hid (M0.out.old (.cells cs 50))
 have N1 := hid (M1.out.old (.cells cs 50))
 have N2 := hid (M2.out.old (.cells cs 50))
 have N3 := hid (Blk.new w1 cs 50)
 have NB := hid (MB.out.alloc MB.out.size (.cells cs 50))
 have NS : Hid (w1.heap.size < (w1.alloc (.cells cs 50)).heap.size) := by unfold Hid; simp
 clear i0 hl hst M0 M1 M2 MB
 generalize w1.alloc (.cells cs 50) = W2 at N0 N1 N2 N3 NB NS ⊢
 obtain ⟨g, hg⟩ : ∃ g, w1.heap.size = g := ⟨_, rfl⟩
 rw [hg] at MS NS N3 ⊢
 clear hg
 have i0 : W2.cell? ⟨w.heap.size + 1, 0, none⟩ = some (.int .i64 2) := N1.out.cell 0
 have i1 : W2.cell? ⟨w.heap.size + 1, 1, none⟩ = some (.bool true) := N1.out.cell 1
 have pcc : W2.cell? ⟨w.heap.size, 21, none⟩ = some (.int .u32 (rgV cs 21)) := (N0.out.cell 21).trans HC.out.pcV.1
 obtain ⟨x21, c21'⟩ := at_some (k := 21) HC.out.size (by omega)
 have d21 := (N3.out.cell 21).trans c21'
 have df := N3.out.frozen
 have hp0 := HC.out.pcV.2.1
 have hp1 := HC.out.pcV.2.2
 clear c21'
 have P3 := hid (N3.out.set 21 (.int .u32 (nextV cs)))
 have P2 := hid (N2.out.far (p := ⟨g, 21, none⟩) (by have := MS.out; simp; omega) (.int .u32 (nextV cs)))
 have PB := hid (NB.out.setCell (p := ⟨g, 21, none⟩) (by have := MS.out; simp; omega) (.int .u32 (nextV cs)))
 have ps : Hid ((cs.setIfInBounds 21 (.int .u32 (nextV cs))).size = 22) := by unfold Hid; rw [Array.size_setIfInBounds]; exact HC.out.size
 have po : Hid (OneRow (cs.setIfInBounds 21 (.int .u32 (nextV cs)))) := OneRow.set HC.out.one _ rfl
 have HNV : Hid ((rgV cs 21 + 4) % 4294967296 = nextV cs) := rfl
 go_upto_region 19 with fail
 rw [HNV.out]
 clear pcc d21 df hp0 hp1 N0 N1 N2 N3 NB
 generalize W2.setCell ⟨g, 21, none⟩ (.int .u32 (nextV cs)) = W9 at P3 P2 PB ⊢
 have hl := load_cpu P3.out ps.out
 have hst := store_cpu P2.out rfl ps.out po.out
 have KRES := hid (loadVar_cpu (P2.out.setRow (cs.setIfInBounds 21 (.int .u32 (nextV cs)))) ps.out)
 go_wp2_with fail
 have hres := KRES.out
 refine bodyPost_ret (v := .tuple #[.agg (cs.setIfInBounds 21 (.int .u32 (nextV cs))), .int .i64 0, .bool false]) ?_ rfl ⟨rfl, belRow PB.out (by omega) _⟩
 simp [results, Tryz.results68, asAddr, hres]
set_option maxRecDepth 100000 in
theorem rexec_2n (cs : Array Value) (hc : CpuOk cs) (v : Bool) (a b : Nat) (n : Int) (l : Int) (hl0 : 0 ≤ l) (hl1 : l < 4294967296) (hr : rightB 2 false v a b 0 0 n = true) (w : World) :
 Calls Tryz.prog 68 #[.agg cs, ins 2 false v a b 0 0 n, .int .u32 l] w fun e w' => e = .returned (.tuple #[.agg (fin (c21 cs) a (loadW v l)), .int .i64 0, .bool false]) ∧ Below w.heap.size w w' := by
 have HC := hid hc
 clear hc
 have ha : a ≤ 15 := by have := (right_inv hr).1; omega
 have HLW := hid (loadW_bd v l hl0 hl1)
 unfold ins
 obtain ⟨h0, h1, h2, hs, hB⟩ := three_made w cs #[.int .i64 2, .bool false, .bool v, .int .i64 a, .int .i64 b, .int .i64 0, .int .i64 0, .int .i64 n] #[.int .u32 0, .int .u32 0, .int .u32 0, .int .u32 0, .int .u32 0, .int .u32 0, .int .u32 0, .int .u32 0, .int .u32 0, .int .u32 0, .int .u32 0, .int .u32 0, .int .u32 0, .int .u32 0, .int .u32 0, .int .u32 0, .int .u32 0, .bool false, .bool false, .bool false, .bool false, .int .u32 0] 50 92 50
 have K0 := hid h0
 have K1 := hid h1
 have K2 := hid h2
 have HS := hid hs
 have KB := hid hB
 clear h0 h1 h2 hs hB
 go_enter Tryz.func68, Tryz.ntmps68
 go_upto_region 1 with fail
 generalize ((w.alloc (.cells cs 50)).alloc (.cells #[.int .i64 2, .bool false, .bool v, .int .i64 a, .int .i64 b, .int .i64 0, .int .i64 0, .int .i64 n] 92)).alloc (.cells #[.int .u32 0, .int .u32 0, .int .u32 0, .int .u32 0, .int .u32 0, .int .u32 0, .int .u32 0, .int .u32 0, .int .u32 0, .int .u32 0, .int .u32 0, .int .u32 0, .int .u32 0, .int .u32 0, .int .u32 0, .int .u32 0, .int .u32 0, .bool false, .bool false, .bool false, .bool false, .int .u32 0] 50) = W at K0 K1 K2 HS KB ⊢
 have i0 : W.cell? ⟨w.heap.size + 1, 0, none⟩ = some (.int .i64 2) := K1.out.cell 0
 have i1 : W.cell? ⟨w.heap.size + 1, 1, none⟩ = some (.bool false) := K1.out.cell 1
 have i2 : W.cell? ⟨w.heap.size + 1, 2, none⟩ = some (.bool v) := K1.out.cell 2
 have i3 : W.cell? ⟨w.heap.size + 1, 3, none⟩ = some (.int .i64 a) := K1.out.cell 3
 have i4 : W.cell? ⟨w.heap.size + 1, 4, none⟩ = some (.int .i64 b) := K1.out.cell 4
 have i5 : W.cell? ⟨w.heap.size + 1, 5, none⟩ = some (.int .i64 0) := K1.out.cell 5
 have i6 : W.cell? ⟨w.heap.size + 1, 6, none⟩ = some (.int .i64 0) := K1.out.cell 6
 have i7 : W.cell? ⟨w.heap.size + 1, 7, none⟩ = some (.int .i64 n) := K1.out.cell 7
 go_upto_if 16 with (go_at_call 86; (refine (rright_any _ _ _ _ _ _ _ _ _).mono ?_; rintro e w1 ⟨rfl, hb1⟩; have M0 := hid (K0.out.step hb1); have M1 := hid (K1.out.step hb1); have M2 := hid (K2.out.step hb1); have MB := hid (KB.out.trans (hb1.mono KB.out.size)); have MS : Hid (w.heap.size + 3 ≤ w1.heap.size) := (by have := hb1.size; have := HS.out; unfold Hid; omega); clear hb1))
 clear i0 i1 i2 i3 i4 i5 i6 i7 K0 K1 K2 HS KB
 have i0 : w1.cell? ⟨w.heap.size + 1, 0, none⟩ = some (.int .i64 2) := M1.out.cell 0
 have hl := load_cpu M0.out HC.out.size
 have hst := store_new (w := w1) (Z := #[.int .u32 0, .int .u32 0, .int .u32 0, .int .u32 0, .int .u32 0, .int .u32 0, .int .u32 0, .int .u32 0, .int .u32 0, .int .u32 0, .int .u32 0, .int .u32 0, .int .u32 0, .int .u32 0, .int .u32 0, .int .u32 0, .int .u32 0, .bool false, .bool false, .bool false, .bool false, .int .u32 0]) (t := 50) rfl HC.out.size HC.out.one
 go_upto_region 11 with fail
 have N0 := hid (M0.out.old (.cells cs 50))
 have N1 := hid (M1.out.old (.cells cs 50))
 have N2 := hid (M2.out.old (.cells cs 50))
 have N3 := hid (Blk.new w1 cs 50)
 have NB := hid (MB.out.alloc MB.out.size (.cells cs 50))
 have NS : Hid (w1.heap.size < (w1.alloc (.cells cs 50)).heap.size) := by unfold Hid; simp
 clear i0 hl hst M0 M1 M2 MB
 generalize w1.alloc (.cells cs 50) = W2 at N0 N1 N2 N3 NB NS ⊢
 obtain ⟨g, hg⟩ : ∃ g, w1.heap.size = g := ⟨_, rfl⟩
 rw [hg] at MS NS N3 ⊢
 clear hg
 have i0 : W2.cell? ⟨w.heap.size + 1, 0, none⟩ = some (.int .i64 2) := N1.out.cell 0
 have i1 : W2.cell? ⟨w.heap.size + 1, 1, none⟩ = some (.bool false) := N1.out.cell 1
 have i2 : W2.cell? ⟨w.heap.size + 1, 2, none⟩ = some (.bool v) := N1.out.cell 2
 have i3 : W2.cell? ⟨w.heap.size + 1, 3, none⟩ = some (.int .i64 a) := N1.out.cell 3
 have hl := load_cpu N0.out HC.out.size
 have HF : Hid (fin (c21 cs) a (loadW v l) = (fin cs a (loadW v l)).setIfInBounds 21 (.int .u32 (nextV cs))) := fin21 cs a ha _ _
 have e0 : Hid ((if v = true then l % 256 else l) = loadW v l) := rfl
 go_upto_if 45 with fail
 go_cut [2] from 46 to 47 (fun s2 wx => s2 = .int .u32 (loadW v l) ∧ W2 = wx)
 case first =>
  cases v
  ·go_wp2_with fail
   go_meet
   exact ⟨rfl, rfl⟩
  ·go_wp2_with fail
   go_meet
   exact ⟨rfl, rfl⟩
 case rest =>
  obtain ⟨rfl, rfl⟩ := hcut
  generalize hL : loadW v l = L at HLW HF ⊢
  have HL := hid hL
  clear hL
  go_upto_region 18 with (go_at_call 93; (refine (gets_any cs HC.out a ha _ HLW.out.1 HLW.out.2 _).mono ?_; rintro e w2 ⟨rfl, hb2⟩; have O0 := hid (N0.out.step hb2); have O1 := hid (N1.out.step hb2); have O2 := hid (N2.out.step hb2); have O3 := hid (N3.out.step hb2); have OB := hid (NB.out.trans (hb2.mono NB.out.size)); have hst := store_cpu (cs := fin cs a L) O3.out HC.out.size (fin_size HC.out.size) (fin_one HC.out.one); clear hb2))
  have N0' := hid (O0.out.farRow (k := g) (by have := MS.out; omega) (fin cs a L))
  have N1' := hid (O1.out.farRow (k := g) (by have := MS.out; omega) (fin cs a L))
  have N2' := hid (O2.out.farRow (k := g) (by have := MS.out; omega) (fin cs a L))
  have N3' := hid (O3.out.setRow (fin cs a L))
  have NB' := hid (belRow OB.out (g := g) (by have := MS.out; omega) (fin cs a L))
  clear hl hst i0 i1 i2 i3 N0 N1 N2 N3 NB O0 O1 O2 O3 OB
  generalize w2.setRow g (fin cs a L) = W3 at N0' N1' N2' N3' NB' ⊢
  have N0 := N0'
  have N1 := N1'
  have N2 := N2'
  have N3 := N3'
  have NB := NB'
  clear N0' N1' N2' N3' NB'
  have pcc : W3.cell? ⟨w.heap.size, 21, none⟩ = some (.int .u32 (rgV cs 21)) := (N0.out.cell 21).trans HC.out.pcV.1
  obtain ⟨x21, c21'⟩ := at_some (k := 21) (fin_size HC.out.size) (by omega)
  have d21 := (N3.out.cell 21).trans c21'
  have df := N3.out.frozen
  have hp0 := HC.out.pcV.2.1
  have hp1 := HC.out.pcV.2.2
  clear c21'
  have P3 := hid (N3.out.set 21 (.int .u32 (nextV cs)))
  have P2 := hid (N2.out.far (p := ⟨g, 21, none⟩) (by have := MS.out; simp; omega) (.int .u32 (nextV cs)))
  have PB := hid (NB.out.setCell (p := ⟨g, 21, none⟩) (by have := MS.out; simp; omega) (.int .u32 (nextV cs)))
  have ps : Hid (((fin cs a L).setIfInBounds 21 (.int .u32 (nextV cs))).size = 22) := by unfold Hid; rw [Array.size_setIfInBounds]; exact (fin_size HC.out.size)
  have po : Hid (OneRow ((fin cs a L).setIfInBounds 21 (.int .u32 (nextV cs)))) := OneRow.set (fin_one HC.out.one) _ rfl
  have HNV : Hid ((rgV cs 21 + 4) % 4294967296 = nextV cs) := rfl
  go_upto_region 19 with fail
  rw [HNV.out]
  clear pcc d21 df hp0 hp1 N0 N1 N2 N3 NB
  generalize W3.setCell ⟨g, 21, none⟩ (.int .u32 (nextV cs)) = W9 at P3 P2 PB ⊢
  have hl := load_cpu P3.out ps.out
  have hst := store_cpu P2.out rfl ps.out po.out
  have KRES := hid (loadVar_cpu (P2.out.setRow ((fin cs a L).setIfInBounds 21 (.int .u32 (nextV cs)))) ps.out)
  go_wp2_with fail
  have hres := KRES.out
  refine bodyPost_ret (v := .tuple #[.agg ((fin cs a L).setIfInBounds 21 (.int .u32 (nextV cs))), .int .i64 0, .bool false]) ?_ rfl ⟨by rw [HL.out, HF.out], belRow PB.out (by omega) _⟩
  simp [results, Tryz.results68, asAddr, hres]
end Go.Proofs.YtgcknekhimpfkaaGreatDoor
