/- The document's Exec: what is reckoned; all. -/
import Derived.Test.YtgcknekhimpfkaaGreatDoorRefK
namespace Go.Proofs.YtgcknekhimpfkaaGreatDoor
open Go Go.RowKit Go.Lib Go.Proofs.YtgcknekhimpfkaaGreatDoor.Pl
set_option maxHeartbeats 1000000
set_option linter.unusedVariables false
set_option linter.unusedSimpArgs false
attribute [local go_sem ↓] exec_load_cpu exec_store_cpu
set_option maxRecDepth 100000 in
theorem rexec_15 (cs : Array Value) (hc : CpuOk cs) (a b c : Nat) (n : Int) (l : Int) (hl0 : 0 ≤ l) (hl1 : l < 4294967296) (hr : rightB 1 false false a b 15 c n = true) (w : World) :
 Calls Tryz.prog 68 #[.agg cs, ins 1 false false a b 15 c n, .int .u32 l] w fun e w' => e = .returned (.tuple #[.agg cs, .int .i64 n, .bool true]) ∧ Below w.heap.size w w' := by
 have HC := hid hc
 clear hc
 unfold ins
 obtain ⟨h0, h1, h2, hs, hB⟩ := three_made w cs #[.int .i64 1, .bool false, .bool false, .int .i64 a, .int .i64 b, .int .i64 15, .int .i64 c, .int .i64 n] #[.int .u32 0, .int .u32 0, .int .u32 0, .int .u32 0, .int .u32 0, .int .u32 0, .int .u32 0, .int .u32 0, .int .u32 0, .int .u32 0, .int .u32 0, .int .u32 0, .int .u32 0, .int .u32 0, .int .u32 0, .int .u32 0, .int .u32 0, .bool false, .bool false, .bool false, .bool false, .int .u32 0] 50 92 50
 have K0 := hid h0
 have K1 := hid h1
 have K2 := hid h2
 have HS := hid hs
 have KB := hid hB
 clear h0 h1 h2 hs hB
 go_enter Tryz.func68, Tryz.ntmps68
 go_upto_region 1 with fail
 generalize ((w.alloc (.cells cs 50)).alloc (.cells #[.int .i64 1, .bool false, .bool false, .int .i64 a, .int .i64 b, .int .i64 15, .int .i64 c, .int .i64 n] 92)).alloc (.cells #[.int .u32 0, .int .u32 0, .int .u32 0, .int .u32 0, .int .u32 0, .int .u32 0, .int .u32 0, .int .u32 0, .int .u32 0, .int .u32 0, .int .u32 0, .int .u32 0, .int .u32 0, .int .u32 0, .int .u32 0, .int .u32 0, .int .u32 0, .bool false, .bool false, .bool false, .bool false, .int .u32 0] 50) = W at K0 K1 K2 HS KB ⊢
 have i0 : W.cell? ⟨w.heap.size + 1, 0, none⟩ = some (.int .i64 1) := K1.out.cell 0
 have i1 : W.cell? ⟨w.heap.size + 1, 1, none⟩ = some (.bool false) := K1.out.cell 1
 have i2 : W.cell? ⟨w.heap.size + 1, 2, none⟩ = some (.bool false) := K1.out.cell 2
 have i3 : W.cell? ⟨w.heap.size + 1, 3, none⟩ = some (.int .i64 a) := K1.out.cell 3
 have i4 : W.cell? ⟨w.heap.size + 1, 4, none⟩ = some (.int .i64 b) := K1.out.cell 4
 have i5 : W.cell? ⟨w.heap.size + 1, 5, none⟩ = some (.int .i64 15) := K1.out.cell 5
 have i6 : W.cell? ⟨w.heap.size + 1, 6, none⟩ = some (.int .i64 c) := K1.out.cell 6
 have i7 : W.cell? ⟨w.heap.size + 1, 7, none⟩ = some (.int .i64 n) := K1.out.cell 7
 go_upto_if 16 with (go_at_call 86; (refine (rright_any _ _ _ _ _ _ _ _ _).mono ?_; rintro e w1 ⟨rfl, hb1⟩; have M0 := hid (K0.out.step hb1); have M1 := hid (K1.out.step hb1); have M2 := hid (K2.out.step hb1); have MB := hid (KB.out.trans (hb1.mono KB.out.size)); have MS : Hid (w.heap.size + 3 ≤ w1.heap.size) := (by have := hb1.size; have := HS.out; unfold Hid; omega); clear hb1))
 clear i0 i1 i2 i3 i4 i5 i6 i7 K0 K1 K2 HS KB
 have i0 : w1.cell? ⟨w.heap.size + 1, 0, none⟩ = some (.int .i64 1) := M1.out.cell 0
 have hl := load_cpu M0.out HC.out.size
 have hst := store_new (w := w1) (Z := #[.int .u32 0, .int .u32 0, .int .u32 0, .int .u32 0, .int .u32 0, .int .u32 0, .int .u32 0, .int .u32 0, .int .u32 0, .int .u32 0, .int .u32 0, .int .u32 0, .int .u32 0, .int .u32 0, .int .u32 0, .int .u32 0, .int .u32 0, .bool false, .bool false, .bool false, .bool false, .int .u32 0]) (t := 50) rfl HC.out.size HC.out.one
 go_upto_region 11 with fail
 have N0 := hid (M0.out.old (.cells cs 50))
 have N1 := hid (M1.out.old (.cells cs 50))
 have N2 := hid (M2.out.old (.cells cs 50))
 have N3 := hid (Blk.new w1 cs 50)
 have NB := hid (MB.out.alloc MB.out.size (.cells cs 50))
 have NS : Hid (w1.heap.size < (w1.alloc (.cells cs 50)).heap.size) := by unfold Hid; simp
 clear i0 hl hst M0 M1 M2 MB
 generalize w1.alloc (.cells cs 50) = W2 at N0 N1 N2 N3 NB NS ⊢
 obtain ⟨g, hg⟩ : ∃ g, w1.heap.size = g := ⟨_, rfl⟩
 rw [hg] at MS NS N3 ⊢
 clear hg
 have i0 : W2.cell? ⟨w.heap.size + 1, 0, none⟩ = some (.int .i64 1) := N1.out.cell 0
 have i5 : W2.cell? ⟨w.heap.size + 1, 5, none⟩ = some (.int .i64 15) := N1.out.cell 5
 go_upto_region 17 with fail
 have hl := load_cpu N0.out.drew HC.out.size
 have hst := store_cpu N2.out.drew rfl HC.out.size HC.out.one
 have KRES := hid (loadVar_cpu (Blk.setRow N2.out.drew cs) HC.out.size)
 have hB := hid (belRow NB.out.drew (g := w.heap.size + 1 + 1) (by omega) cs)
 have i7 : W2.cell? ⟨w.heap.size + 1, 7, none⟩ = some (.int .i64 n) := N1.out.cell 7
 have i7' : (W2.drew.setRow (w.heap.size + 1 + 1) cs).cell? ⟨w.heap.size + 1, 7, none⟩ = some (.int .i64 n) := (Blk.farRow N1.out.drew (by omega) cs).cell 7
 go_region
 go_wp2_with fail
 have hres := KRES.out
 refine bodyPost_ret (v := .tuple #[.agg cs, .int .i64 n, .bool true]) ?_ rfl ⟨rfl, hB.out⟩
 simp [results, Tryz.results68, asAddr, hres]
set_option maxRecDepth 100000 in
theorem rexec_alu (cs : Array Value) (hc : CpuOk cs) (f : Int) (hf : f = 0 ∨ f = 1) (u v : Bool) (a b c : Nat) (op n : Int) (l : Int) (hl0 : 0 ≤ l) (hl1 : l < 4294967296) (h15 : op ≠ 15) (R : Array Value) (ok : Bool) (hR : RkIs cs f u v a b op c n R ok)
 (hk : ∀ w, Calls Tryz.prog 94 #[.agg cs, ins f u v a b op c n] w fun e w' => e = .returned (.tuple #[.agg R, .bool ok]) ∧ Below w.heap.size w w') (hr : rightB f u v a b op c n = true) (w : World) :
 Calls Tryz.prog 68 #[.agg cs, ins f u v a b op c n, .int .u32 l] w fun e w' => e = .returned (.tuple #[.agg (exAlu cs f u v a b op c n).1, .int .i64 (exAlu cs f u v a b op c n).2.1, .bool (exAlu cs f u v a b op c n).2.2]) ∧ Below w.heap.size w w' := by
 have HC := hid hc
 clear hc
 obtain ⟨hRs, hRo, hRk⟩ := hR
 have HRS := hid hRs
 have HRO := hid hRo
 have HRK := hid hRk
 have HK := hid hk
 have hf2 : (f == 2) = false := by simp; omega
 have hf3 : (f == 3) = false := by simp; omega
 have ho15 : (op == 15) = false := by simpa using h15
 clear hRs hRo hRk hk h15
 unfold ins at HK
 unfold ins
 obtain ⟨h0, h1, h2, hs, hB⟩ := three_made w cs #[.int .i64 f, .bool u, .bool v, .int .i64 a, .int .i64 b, .int .i64 op, .int .i64 c, .int .i64 n] #[.int .u32 0, .int .u32 0, .int .u32 0, .int .u32 0, .int .u32 0, .int .u32 0, .int .u32 0, .int .u32 0, .int .u32 0, .int .u32 0, .int .u32 0, .int .u32 0, .int .u32 0, .int .u32 0, .int .u32 0, .int .u32 0, .int .u32 0, .bool false, .bool false, .bool false, .bool false, .int .u32 0] 50 92 50
 have K0 := hid h0
 have K1 := hid h1
 have K2 := hid h2
 have HS := hid hs
 have KB := hid hB
 clear h0 h1 h2 hs hB
 go_enter Tryz.func68, Tryz.ntmps68
 go_upto_region 1 with fail
 generalize ((w.alloc (.cells cs 50)).alloc (.cells #[.int .i64 f, .bool u, .bool v, .int .i64 a, .int .i64 b, .int .i64 op, .int .i64 c, .int .i64 n] 92)).alloc (.cells #[.int .u32 0, .int .u32 0, .int .u32 0, .int .u32 0, .int .u32 0, .int .u32 0, .int .u32 0, .int .u32 0, .int .u32 0, .int .u32 0, .int .u32 0, .int .u32 0, .int .u32 0, .int .u32 0, .int .u32 0, .int .u32 0, .int .u32 0, .bool false, .bool false, .bool false, .bool false, .int .u32 0] 50) = W at K0 K1 K2 HS KB ⊢
 have i0 : W.cell? ⟨w.heap.size + 1, 0, none⟩ = some (.int .i64 f) := K1.out.cell 0
 have i1 : W.cell? ⟨w.heap.size + 1, 1, none⟩ = some (.bool u) := K1.out.cell 1
 have i2 : W.cell? ⟨w.heap.size + 1, 2, none⟩ = some (.bool v) := K1.out.cell 2
 have i3 : W.cell? ⟨w.heap.size + 1, 3, none⟩ = some (.int .i64 a) := K1.out.cell 3
 have i4 : W.cell? ⟨w.heap.size + 1, 4, none⟩ = some (.int .i64 b) := K1.out.cell 4
 have i5 : W.cell? ⟨w.heap.size + 1, 5, none⟩ = some (.int .i64 op) := K1.out.cell 5
 have i6 : W.cell? ⟨w.heap.size + 1, 6, none⟩ = some (.int .i64 c) := K1.out.cell 6
 have i7 : W.cell? ⟨w.heap.size + 1, 7, none⟩ = some (.int .i64 n) := K1.out.cell 7
 go_upto_if 16 with (go_at_call 86; (refine (rright_any _ _ _ _ _ _ _ _ _).mono ?_; rintro e w1 ⟨rfl, hb1⟩; have M0 := hid (K0.out.step hb1); have M1 := hid (K1.out.step hb1); have M2 := hid (K2.out.step hb1); have MB := hid (KB.out.trans (hb1.mono KB.out.size)); have MS : Hid (w.heap.size + 3 ≤ w1.heap.size) := (by have := hb1.size; have := HS.out; unfold Hid; omega); clear hb1))
 clear i0 i1 i2 i3 i4 i5 i6 i7 K0 K1 K2 HS KB
 have i0 : w1.cell? ⟨w.heap.size + 1, 0, none⟩ = some (.int .i64 f) := M1.out.cell 0
 have hl := load_cpu M0.out HC.out.size
 have hst := store_new (w := w1) (Z := #[.int .u32 0, .int .u32 0, .int .u32 0, .int .u32 0, .int .u32 0, .int .u32 0, .int .u32 0, .int .u32 0, .int .u32 0, .int .u32 0, .int .u32 0, .int .u32 0, .int .u32 0, .int .u32 0, .int .u32 0, .int .u32 0, .int .u32 0, .bool false, .bool false, .bool false, .bool false, .int .u32 0]) (t := 50) rfl HC.out.size HC.out.one
 go_upto_region 11 with fail
 have N0 := hid (M0.out.old (.cells cs 50))
 have N1 := hid (M1.out.old (.cells cs 50))
 have N2 := hid (M2.out.old (.cells cs 50))
 have N3 := hid (Blk.new w1 cs 50)
 have NB := hid (MB.out.alloc MB.out.size (.cells cs 50))
 have NS : Hid (w1.heap.size < (w1.alloc (.cells cs 50)).heap.size) := by unfold Hid; simp
 clear i0 hl hst M0 M1 M2 MB
 generalize w1.alloc (.cells cs 50) = W2 at N0 N1 N2 N3 NB NS ⊢
 obtain ⟨g, hg⟩ : ∃ g, w1.heap.size = g := ⟨_, rfl⟩
 rw [hg] at MS NS N3 ⊢
 clear hg
 have i0 : W2.cell? ⟨w.heap.size + 1, 0, none⟩ = some (.int .i64 f) := N1.out.cell 0
 have i1 : W2.cell? ⟨w.heap.size + 1, 1, none⟩ = some (.bool u) := N1.out.cell 1
 have i2 : W2.cell? ⟨w.heap.size + 1, 2, none⟩ = some (.bool v) := N1.out.cell 2
 have i3 : W2.cell? ⟨w.heap.size + 1, 3, none⟩ = some (.int .i64 a) := N1.out.cell 3
 have i4 : W2.cell? ⟨w.heap.size + 1, 4, none⟩ = some (.int .i64 b) := N1.out.cell 4
 have i5 : W2.cell? ⟨w.heap.size + 1, 5, none⟩ = some (.int .i64 op) := N1.out.cell 5
 have i6 : W2.cell? ⟨w.heap.size + 1, 6, none⟩ = some (.int .i64 c) := N1.out.cell 6
 have i7 : W2.cell? ⟨w.heap.size + 1, 7, none⟩ = some (.int .i64 n) := N1.out.cell 7
 have hl := load_cpu N0.out HC.out.size
 go_upto_if 32 with (go_at_call 94; (refine (HK.out _).mono ?_; rintro e w2 ⟨rfl, hb2⟩; have O0 := hid (N0.out.step hb2); have O1 := hid (N1.out.step hb2); have O2 := hid (N2.out.step hb2); have O3 := hid (N3.out.step hb2); have OB := hid (NB.out.trans (hb2.mono NB.out.size)); have OS : Hid (g < w2.heap.size) := Nat.lt_of_lt_of_le NS.out hb2.size; have hst := store_new (w := w2) (Z := #[.int .u32 0, .int .u32 0, .int .u32 0, .int .u32 0, .int .u32 0, .int .u32 0, .int .u32 0, .int .u32 0, .int .u32 0, .int .u32 0, .int .u32 0, .int .u32 0, .int .u32 0, .int .u32 0, .int .u32 0, .int .u32 0, .int .u32 0, .bool false, .bool false, .bool false, .bool false, .int .u32 0]) (t := 50) rfl HRS.out HRO.out; clear hb2))
 clear hst hl i0 i1 i2 i3 i4 i5 i6 i7 hf2 hf3 ho15
 have Q0 := hid (O0.out.old (.cells R 50))
 have Q2 := hid (O2.out.old (.cells R 50))
 have Q3 := hid (O3.out.old (.cells R 50))
 have Q4 := hid (Blk.new w2 R 50)
 have QB := hid (OB.out.alloc OB.out.size (.cells R 50))
 clear N0 N1 N2 N3 NB O0 O1 O2 O3 OB
 generalize w2.alloc (.cells R 50) = W3 at Q0 Q2 Q3 Q4 QB ⊢
 obtain ⟨k, hg⟩ : ∃ k, w2.heap.size = k := ⟨_, rfl⟩
 rw [hg] at OS Q4 ⊢
 clear hg
 rcases HRK.out with ⟨rfl, hx⟩ | ⟨rfl, rfl, hx⟩
 ·have HX := hid hx
  clear hx
  have hl := load_cpu Q4.out HRS.out
  have hst := store_cpu Q3.out HC.out.size HRS.out HRO.out
  have N0 := hid (Q0.out.farRow (k := g) (by have := MS.out; omega) R)
  have N2 := hid (Q2.out.farRow (k := g) (by have := MS.out; omega) R)
  have N3 := hid (Q3.out.setRow R)
  have NB := hid (belRow QB.out (g := g) (by have := MS.out; omega) R)
  go_upto_region 18 with fail
  clear hl hst Q0 Q2 Q3 Q4 QB
  generalize W3.setRow g R = W4 at N0 N2 N3 NB ⊢
  have N1 := NB
  have pcc : W4.cell? ⟨w.heap.size, 21, none⟩ = some (.int .u32 (rgV cs 21)) := (N0.out.cell 21).trans HC.out.pcV.1
  obtain ⟨x21, c21'⟩ := at_some (k := 21) HRS.out (by omega)
  have d21 := (N3.out.cell 21).trans c21'
  have df := N3.out.frozen
  have hp0 := HC.out.pcV.2.1
  have hp1 := HC.out.pcV.2.2
  clear c21'
  have P3 := hid (N3.out.set 21 (.int .u32 (nextV cs)))
  have P2 := hid (N2.out.far (p := ⟨g, 21, none⟩) (by have := MS.out; simp; omega) (.int .u32 (nextV cs)))
  have PB := hid (NB.out.setCell (p := ⟨g, 21, none⟩) (by have := MS.out; simp; omega) (.int .u32 (nextV cs)))
  have ps : Hid ((R.setIfInBounds 21 (.int .u32 (nextV cs))).size = 22) := by unfold Hid; rw [Array.size_setIfInBounds]; exact HRS.out
  have po : Hid (OneRow (R.setIfInBounds 21 (.int .u32 (nextV cs)))) := OneRow.set HRO.out _ rfl
  have HNV : Hid ((rgV cs 21 + 4) % 4294967296 = nextV cs) := rfl
  go_upto_region 19 with fail
  rw [HNV.out]
  clear pcc d21 df hp0 hp1 N0 N1 N2 N3 NB
  generalize W4.setCell ⟨g, 21, none⟩ (.int .u32 (nextV cs)) = W9 at P3 P2 PB ⊢
  have hl := load_cpu P3.out ps.out
  have hst := store_cpu P2.out rfl ps.out po.out
  have KRES := hid (loadVar_cpu (P2.out.setRow (R.setIfInBounds 21 (.int .u32 (nextV cs)))) ps.out)
  go_wp2_with fail
  have hres := KRES.out
  refine bodyPost_ret (v := .tuple #[.agg (R.setIfInBounds 21 (.int .u32 (nextV cs))), .int .i64 0, .bool false]) ?_ rfl ⟨by rw [HX.out], belRow PB.out (by omega) _⟩
  simp [results, Tryz.results68, asAddr, hres]
 ·have HX := hid hx
  clear hx
  have hl := load_cpu Q0.out HC.out.size
  have hst := store_cpu (cs := R) Q2.out rfl HC.out.size HC.out.one
  have KRES := hid (loadVar_cpu (Q2.out.setRow R) HC.out.size)
  go_wp2_with fail
  have hres := KRES.out
  refine bodyPost_ret (v := .tuple #[.agg R, .int .i64 6, .bool true]) ?_ rfl ⟨by rw [HX.out], belRow QB.out (by omega) _⟩
  simp [results, Tryz.results68, asAddr, hres]
/-- THE DOCUMENT's EXEC, of any processor and instruction. -/
theorem rexec_any (cs : Array Value) (hc : CpuOk cs) (f : Int) (u v : Bool) (a b op c n l : Int) (h0 : 0 ≤ l) (h1 : l < 4294967296) (w : World) :
 Calls Tryz.prog 68 #[.agg cs, ins f u v a b op c n, .int .u32 l] w fun e w' => e = .returned (.tuple #[.agg (exV cs f u v a b op c n l).1, .int .i64 (exV cs f u v a b op c n l).2.1, .bool (exV cs f u v a b op c n l).2.2]) ∧ Below w.heap.size w w' := by
 cases hr : rightB f u v a b op c n
 ·have e : exV cs f u v a b op c n l = (cs, 0, false) := by unfold exV; rw [hr, if_pos rfl]
  rw [e]; exact rexec_no cs hc f u v a b op c n l h0 h1 hr w
 ·obtain ⟨ha, hb, hcc, ho, hf⟩ := right_inv hr
  obtain ⟨a, rfl⟩ := Int.eq_ofNat_of_zero_le ha.1
  obtain ⟨b, rfl⟩ := Int.eq_ofNat_of_zero_le hb.1
  obtain ⟨c, rfl⟩ := Int.eq_ofNat_of_zero_le hcc.1
  have alu : f = 0 ∨ f = 1 → Calls Tryz.prog 68 #[.agg cs, ins f u v a b op c n, .int .u32 l] w fun e w' => e = .returned (.tuple #[.agg (exV cs f u v a b op c n l).1, .int .i64 (exV cs f u v a b op c n l).2.1, .bool (exV cs f u v a b op c n l).2.2]) ∧ Below w.heap.size w w' := fun hf => by
   rw [exV_alu hr hf]
   by_cases h15 : op = 15
   ·subst h15
    have hk : reckB f u v a b 15 c = true := by
     obtain ⟨_, _, _, _, h⟩ := right_inv hr
     rcases h with ⟨rfl, _, h⟩ | ⟨rfl, _, _, h⟩ | ⟨rfl, _⟩ | ⟨rfl, _⟩
     ·exact h
     ·exact h
     ·omega
     ·omega
    have h15 : f = 1 ∧ u = false ∧ v = false := by
     simp only [reckB] at hk
     simp at hk
     exact ⟨hk.1.1.1.1, hk.1.1.1.2, hk.1.1.2⟩
    obtain ⟨rfl, rfl, rfl⟩ := h15
    exact rexec_15 cs hc a b c n l h0 h1 hr w
   ·obtain ⟨R, ok, hR, hC⟩ := rk_any cs hc f hf u v a b c op n hr h15
    exact rexec_alu cs hc f hf u v a b c op n l h0 h1 h15 R ok hR hC hr w
  rcases hf with ⟨rfl, _⟩ | ⟨rfl, _⟩ | ⟨rfl, hc0, rfl, _⟩ | ⟨rfl, hb0, rfl, hu⟩
  ·exact alu (.inl rfl)
  ·exact alu (.inr rfl)
  ·obtain rfl : c = 0 := by omega
   cases u
   ·have e : exV cs 2 false v a b 0 ((0 : Nat) : Int) n l = (fin (c21 cs) a (loadW v l), 0, false) := by unfold exV; rw [if_neg (by rw [hr]; simp)]; rfl
    rw [e]; exact rexec_2n cs hc v a b n l h0 h1 hr w
   ·have e : exV cs 2 true v a b 0 ((0 : Nat) : Int) n l = (c21 cs, 0, false) := by unfold exV; rw [if_neg (by rw [hr]; simp)]; rfl
    rw [e]; exact rexec_2u cs hc v a b n l h0 h1 hr w
  ·obtain rfl : b = 0 := by omega
   have e : exV cs 3 u v a ((0 : Nat) : Int) 0 c n l = (exGo cs u v a c n, 0, false) := by unfold exV; rw [if_neg (by rw [hr]; simp), if_neg (by omega), if_pos rfl]; simp
   rw [e]; exact rexec_3 cs hc u v a c n l h0 h1 hr w
end Go.Proofs.YtgcknekhimpfkaaGreatDoor
