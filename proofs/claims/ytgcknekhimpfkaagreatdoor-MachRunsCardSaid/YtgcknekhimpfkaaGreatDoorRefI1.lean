/- The document's: reckoned, MOV and shifts. -/
import Derived.Test.YtgcknekhimpfkaaGreatDoorRefH
import Derived.Deep.RegionHeld3
namespace Go.Proofs.YtgcknekhimpfkaaGreatDoor
open Go Go.RowKit Go.Lib Go.Proofs.YtgcknekhimpfkaaGreatDoor.Pl
open List renaming getElem_toArray → lA, getElem_cons_zero → lB, getElem_cons_succ → lC, setIfInBounds_toArray → lG, set_cons_zero → lH, set_cons_succ → lI
set_option maxHeartbeats 1000000
set_option linter.unusedVariables false
set_option linter.unusedSimpArgs false
attribute [local go_sem ↓] exec_load_cpu exec_store_cpu
theorem belDr {B : Nat} {a w : World} (h : Below B a w) : Below B a w.drew := belN h 1
theorem and_not (y x : Int) (h0 : 0 ≤ y) (h1 : y < 4294967296) (h2 : 0 ≤ x) (h3 : x < 4294967296) : bits .and .u32 y (4294967295 - x) = bits .andNot .u32 y x := by
 rw [u32_andNot y x h0 h1 h2 h3, u32_and _ _ h0 h1 (by omega) (by omega), show (4294967295 - x).toNat = 4294967295 - x.toNat from by omega]
theorem movedV_bd {cs : Array Value} (hc : CpuOk cs) (f : Int) (u v : Bool) {n x : Int} (hn0 : 0 ≤ n) (hn1 : n ≤ 65535) (hx0 : 0 ≤ x) (hx1 : x < 4294967296) : 0 ≤ movedV cs f u v n x ∧ movedV cs f u v n x < 4294967296 := by
 unfold movedV
 split
 ·split
  ·omega
  ·split
   ·exact u32_bits_bd .or _ _
   ·exact hc.hV.2
 ·exact ⟨hx0, hx1⟩
set_option maxRecDepth 100000 in
theorem rk_1 (cs : Array Value) (hc : CpuOk cs) (f : Int) (hf : f = 0 ∨ f = 1) (u v : Bool) (a b c : Nat) (n : Int) (hr : rightB f u v a b 1 c n = true) (w : World) :
 Calls Tryz.prog 94 #[.agg cs, ins f u v a b 1 c n] w fun e w' => e = .returned (.tuple #[.agg (fin cs a (lslV (rgV cs b) ((opX cs f v c n) % 32).toNat)), .bool true]) ∧ Below w.heap.size w w' := by
 have hn := reck_n (hf) hr
 have hn0 := hn.1
 have hn1 := hn.2
 clear hn
 have ha : a ≤ 15 := by have := (right_inv hr).1; omega
 have hbb : (b : Int) < 16 := by have := (right_inv hr).2.1; omega
 have hcc : (c : Int) < 16 := by have := (right_inv hr).2.2.1; omega
 obtain ⟨hrc, hrc0, hrc1⟩ := hc.rg (k := c) (by omega)
 obtain ⟨hrb, hrb0, hrb1⟩ := hc.rg (k := b) (by omega)
 obtain ⟨hX0, hX1⟩ := opX_bd hc f v (by omega : c ≤ 15) hn0 hn1
 have hot := or_top n hn0 hn1
 have HRC := hid hrc
 have HRB := hid hrb
 have HC := hid hc
 have HR := hid hr
 clear hrc hrb hc hr
 unfold ins
 obtain ⟨h0, h1, h2, hs, hB⟩ := three_made w cs #[.int .i64 f, .bool u, .bool v, .int .i64 a, .int .i64 b, .int .i64 1, .int .i64 c, .int .i64 n] #[.int .u32 0, .int .u32 0, .int .u32 0, .int .u32 0, .int .u32 0, .int .u32 0, .int .u32 0, .int .u32 0, .int .u32 0, .int .u32 0, .int .u32 0, .int .u32 0, .int .u32 0, .int .u32 0, .int .u32 0, .int .u32 0, .int .u32 0, .bool false, .bool false, .bool false, .bool false, .int .u32 0] 50 92 50
 have K0 := hid h0
 have K1 := hid h1
 have K2 := hid h2
 have KB := hid hB
 clear h0 h1 h2 hs hB
 go_enter Tryz.func94, Tryz.ntmps94
 go_upto_region 1 with fail
 generalize ((w.alloc (.cells cs 50)).alloc (.cells #[.int .i64 f, .bool u, .bool v, .int .i64 a, .int .i64 b, .int .i64 1, .int .i64 c, .int .i64 n] 92)).alloc (.cells #[.int .u32 0, .int .u32 0, .int .u32 0, .int .u32 0, .int .u32 0, .int .u32 0, .int .u32 0, .int .u32 0, .int .u32 0, .int .u32 0, .int .u32 0, .int .u32 0, .int .u32 0, .int .u32 0, .int .u32 0, .int .u32 0, .int .u32 0, .bool false, .bool false, .bool false, .bool false, .int .u32 0] 50) = W at K0 K1 K2 KB ⊢
 have i0 : W.cell? ⟨w.heap.size + 1, 0, none⟩ = some (.int .i64 f) := K1.out.cell 0
 have i2 : W.cell? ⟨w.heap.size + 1, 2, none⟩ = some (.bool v) := K1.out.cell 2
 have i4 : W.cell? ⟨w.heap.size + 1, 4, none⟩ = some (.int .i64 b) := K1.out.cell 4
 have i5 : W.cell? ⟨w.heap.size + 1, 5, none⟩ = some (.int .i64 1) := K1.out.cell 5
 have i6 : W.cell? ⟨w.heap.size + 1, 6, none⟩ = some (.int .i64 c) := K1.out.cell 6
 have i7 : W.cell? ⟨w.heap.size + 1, 7, none⟩ = some (.int .i64 n) := K1.out.cell 7
 have oc := (K0.out.cell c).trans HRC.out
 have ob := (K0.out.cell b).trans HRB.out
 go_upto_if 18 with fail
 go_cut [6] from 11 to 25 (fun s6 wx => s6 = .int .u32 (opX cs f v c n) ∧ W = wx)
 case first =>
  rcases hf with rfl | rfl
  ·go_wp2_with fail
   go_meet
   exact ⟨rfl, rfl⟩
  ·cases v
   ·go_wp2_with fail
    go_meet
    exact ⟨rfl, rfl⟩
   ·go_wp2_with fail
    go_meet
    exact ⟨rfl, rfl⟩
 case rest =>
  obtain ⟨rfl, rfl⟩ := hcut
  clear oc hot i0 i2 i6 i7 hcc hrc0 hrc1 HRC
  generalize hx : opX cs f v c n = x at hX0 hX1 ⊢
  generalize hy : rgV cs b = y at hrb0 hrb1 HRB ob ⊢
  have HX := hid hx
  have HY := hid hy
  clear hx hy
  obtain ⟨m, hm⟩ : ∃ m : Nat, x % 32 = (m : Int) := ⟨(x % 32).toNat, by omega⟩
  have hm31 : (m : Int) ≤ 31 := by omega
  have HM : Hid ((x % 32).toNat = m) := by unfold Hid; omega
  have HV : Hid (0 ≤ (lslV y m) ∧ (lslV y m) < 4294967296) := lslV_bd _ _
  go_upto_region 12 with fail
  clear i5 ob
  have J0 : Hid (Blk W.drew w.heap.size cs 50) := K0.out
  have J1 : Hid (Blk W.drew (w.heap.size + 1) #[.int .i64 f, .bool u, .bool v, .int .i64 a, .int .i64 b, .int .i64 1, .int .i64 c, .int .i64 n] 92) := K1.out
  have J2 : Hid (Blk W.drew (w.heap.size + 1 + 1) #[.int .u32 0, .int .u32 0, .int .u32 0, .int .u32 0, .int .u32 0, .int .u32 0, .int .u32 0, .int .u32 0, .int .u32 0, .int .u32 0, .int .u32 0, .int .u32 0, .int .u32 0, .int .u32 0, .int .u32 0, .int .u32 0, .int .u32 0, .bool false, .bool false, .bool false, .bool false, .int .u32 0] 50) := K2.out
  have JB : Hid (Below w.heap.size w W.drew) := belDr KB.out
  refine wp_region_held_drew (S := (fun w' => Hid (Blk w' w.heap.size cs 50) ∧ Hid (Blk w' (w.heap.size + 1) #[.int .i64 f, .bool u, .bool v, .int .i64 a, .int .i64 b, .int .i64 1, .int .i64 c, .int .i64 n] 92) ∧ Hid (∃ X, Blk w' (w.heap.size + 1 + 1) X 50) ∧ Hid (Below w.heap.size w w'))) (by kernel_rfl) ⟨J0, J1, ⟨_, J2.out⟩, JB⟩ (fun hHeld => ?_)
  refine wpAnyH_take (i := 0) (oi := _) (v := ?v0_1) rfl (by kernel_rfl) (by kernel_rfl) (by kernel_rfl) (fun _ _ _ h => h) (Or.inl ⟨by rfl, ?hy0_1⟩) (by assumption) ?rest0_1
  case hy0_1 => (intro wq hSw; (try dsimp only at hSw); obtain ⟨q0, q1, q2, qB⟩ := hSw; have hl := load_cpu q0.out HC.out.size; have i3 : wq.cell? ⟨w.heap.size + 1, 3, none⟩ = some (.int .i64 a) := q1.out.cell 3; clear q0 q1 q2 qB; simp only [lA, lB, lC]; go_simp; try with_reducible rfl)
  simp only [Act.put, lA, lB, lC, lG, lH, lI]
  refine wpAnyH_take (i := 1) (oi := _) (v := ?v1_2) rfl (by kernel_rfl) (by kernel_rfl) (by kernel_rfl) (fun _ _ _ h => h) (Or.inl ⟨by rfl, ?hy1_2⟩) (by assumption) ?rest1_2
  case hy1_2 => (intro wq hSw; (try dsimp only at hSw); obtain ⟨q0, q1, q2, qB⟩ := hSw; have hl := load_cpu q0.out HC.out.size; have i3 : wq.cell? ⟨w.heap.size + 1, 3, none⟩ = some (.int .i64 a) := q1.out.cell 3; clear q0 q1 q2 qB; simp only [lA, lB, lC]; go_simp; try with_reducible rfl)
  simp only [Act.put, lA, lB, lC, lG, lH, lI]
  refine wpAnyH_take (i := 2) (oi := _) (v := ?v2_3) rfl (by kernel_rfl) (by kernel_rfl) (by kernel_rfl) (fun _ _ _ h => h) (Or.inl ⟨by rfl, ?hy2_3⟩) (by assumption) ?rest2_3
  case hy2_3 => (intro wq hSw; (try dsimp only at hSw); obtain ⟨q0, q1, q2, qB⟩ := hSw; have hl := load_cpu q0.out HC.out.size; have i3 : wq.cell? ⟨w.heap.size + 1, 3, none⟩ = some (.int .i64 a) := q1.out.cell 3; clear q0 q1 q2 qB; simp only [lA, lB, lC]; go_simp; try with_reducible rfl)
  simp only [Act.put, lA, lB, lC, lG, lH, lI]
  refine wpAnyH_take (i := 3) (oi := _) (v := ?v3_4) rfl (by kernel_rfl) (by kernel_rfl) (by kernel_rfl) (fun _ _ _ h => h) (Or.inl ⟨by rfl, ?hy3_4⟩) (by assumption) ?rest3_4
  case hy3_4 => (intro wq hSw; (try dsimp only at hSw); obtain ⟨q0, q1, q2, qB⟩ := hSw; have hl := load_cpu q0.out HC.out.size; have i3 : wq.cell? ⟨w.heap.size + 1, 3, none⟩ = some (.int .i64 a) := q1.out.cell 3; clear q0 q1 q2 qB; simp only [lA, lB, lC]; go_simp; try with_reducible rfl)
  simp only [Act.put, lA, lB, lC, lG, lH, lI]
  refine wpAnyH_take (i := 4) (oi := _) (v := ?v4_5) rfl (by kernel_rfl) (by kernel_rfl) (by kernel_rfl) (fun _ _ _ h => h) (Or.inl ⟨by rfl, ?hy4_5⟩) (by assumption) ?rest4_5
  case hy4_5 => (intro wq hSw; (try dsimp only at hSw); obtain ⟨q0, q1, q2, qB⟩ := hSw; have hl := load_cpu q0.out HC.out.size; have i3 : wq.cell? ⟨w.heap.size + 1, 3, none⟩ = some (.int .i64 a) := q1.out.cell 3; clear q0 q1 q2 qB; simp only [lA, lB, lC]; go_simp; try with_reducible rfl)
  simp only [Act.put, lA, lB, lC, lG, lH, lI]
  refine wpAnyH_take (i := 5) (oi := _) (v := ?v5_6) rfl (by kernel_rfl) (by kernel_rfl) (by kernel_rfl) (fun _ _ _ h => h) (Or.inl ⟨by rfl, ?hy5_6⟩) (by assumption) ?rest5_6
  case hy5_6 => (intro wq hSw; (try dsimp only at hSw); obtain ⟨q0, q1, q2, qB⟩ := hSw; have hl := load_cpu q0.out HC.out.size; have i3 : wq.cell? ⟨w.heap.size + 1, 3, none⟩ = some (.int .i64 a) := q1.out.cell 3; clear q0 q1 q2 qB; simp only [lA, lB, lC]; go_simp; try with_reducible rfl)
  simp only [Act.put, lA, lB, lC, lG, lH, lI]
  refine wpAnyH_ready (rs := [6]) (by kernel_rfl) (by simp) ?_
  refine AllReadyH.cons (o := _) rfl (fun K hK => ?_) AllReadyH.nil
  try simp only [lA, lB, lC]
  go_simp
  go_at_call 93
  refine (gets_any cs HC.out a ha _ (HV.out.1) (HV.out.2) _).mono ?_
  rintro e w2 ⟨rfl, hb2⟩
  have L0 := hid (J0.out.step hb2)
  have L1 := hid (J1.out.step hb2)
  have L2 := hid (J2.out.step hb2)
  have LB := hid (JB.out.trans (hb2.mono JB.out.size))
  refine hK.out _ _ ⟨L0, L1, ⟨_, L2.out⟩, LB⟩ (fun _ => ?_)
  try simp only [Act.put, lA, lB, lC, lG, lH, lI]
  refine wpAnyH_ready (rs := [7]) (by kernel_rfl) (by simp) ?_
  refine AllReadyH.cons (o := _) rfl (fun K hK => ?_) AllReadyH.nil
  try simp only [lA, lB, lC]
  go_simp
  have hst := store_cpu (cs := fin cs a (lslV y m)) L2.out rfl (fin_size HC.out.size) (fin_one HC.out.one)
  go_simp
  have N0 := hid (L0.out.farRow (k := w.heap.size + 1 + 1) (by omega) (fin cs a (lslV y m)))
  have N1 := hid (L1.out.farRow (k := w.heap.size + 1 + 1) (by omega) (fin cs a (lslV y m)))
  have MB := hid (belRow LB.out (g := w.heap.size + 1 + 1) (by omega) (fin cs a (lslV y m)))
  have KRES := hid (loadVar_cpu (L2.out.setRow (fin cs a (lslV y m))) (fin_size HC.out.size))
  have N2 := hid (L2.out.setRow (fin cs a (lslV y m)))
  refine hK.out _ _ ⟨N0, N1, ⟨_, N2.out⟩, MB⟩ (fun _ => ?_)
  try simp only [Act.put, lA, lB, lC, lG, lH, lI]
  refine wpAnyH_take (i := 8) (oi := _) (v := ?v8_7) rfl (by kernel_rfl) (by kernel_rfl) (by kernel_rfl) (fun _ _ _ h => h) (Or.inl ⟨by rfl, ?hy8_7⟩) (by assumption) ?rest8_7
  case hy8_7 => (intro wq hSw; (try dsimp only at hSw); simp only [lA, lB, lC]; go_simp; try with_reducible rfl)
  simp only [Act.put, lA, lB, lC, lG, lH, lI]
  refine wpAnyH_done (by kernel_rfl) ?_ _
  go_wp2_with fail
  have hres := KRES.out
  refine bodyPost_ret (v := .tuple #[.agg (fin cs a (lslV y m)), .bool true]) ?_ rfl ⟨by rw [HX.out, HY.out, HM.out], MB.out⟩
  simp [results, Tryz.results94, asAddr, hres]
set_option maxRecDepth 100000 in
theorem rk_2 (cs : Array Value) (hc : CpuOk cs) (f : Int) (hf : f = 0 ∨ f = 1) (u v : Bool) (a b c : Nat) (n : Int) (hr : rightB f u v a b 2 c n = true) (w : World) :
 Calls Tryz.prog 94 #[.agg cs, ins f u v a b 2 c n] w fun e w' => e = .returned (.tuple #[.agg (fin cs a (asrV (rgV cs b) ((opX cs f v c n) % 32).toNat)), .bool true]) ∧ Below w.heap.size w w' := by
 have hn := reck_n (hf) hr
 have hn0 := hn.1
 have hn1 := hn.2
 clear hn
 have ha : a ≤ 15 := by have := (right_inv hr).1; omega
 have hbb : (b : Int) < 16 := by have := (right_inv hr).2.1; omega
 have hcc : (c : Int) < 16 := by have := (right_inv hr).2.2.1; omega
 obtain ⟨hrc, hrc0, hrc1⟩ := hc.rg (k := c) (by omega)
 obtain ⟨hrb, hrb0, hrb1⟩ := hc.rg (k := b) (by omega)
 obtain ⟨hX0, hX1⟩ := opX_bd hc f v (by omega : c ≤ 15) hn0 hn1
 have hot := or_top n hn0 hn1
 have HRC := hid hrc
 have HRB := hid hrb
 have HC := hid hc
 have HR := hid hr
 clear hrc hrb hc hr
 unfold ins
 obtain ⟨h0, h1, h2, hs, hB⟩ := three_made w cs #[.int .i64 f, .bool u, .bool v, .int .i64 a, .int .i64 b, .int .i64 2, .int .i64 c, .int .i64 n] #[.int .u32 0, .int .u32 0, .int .u32 0, .int .u32 0, .int .u32 0, .int .u32 0, .int .u32 0, .int .u32 0, .int .u32 0, .int .u32 0, .int .u32 0, .int .u32 0, .int .u32 0, .int .u32 0, .int .u32 0, .int .u32 0, .int .u32 0, .bool false, .bool false, .bool false, .bool false, .int .u32 0] 50 92 50
 have K0 := hid h0
 have K1 := hid h1
 have K2 := hid h2
 have KB := hid hB
 clear h0 h1 h2 hs hB
 go_enter Tryz.func94, Tryz.ntmps94
 go_upto_region 1 with fail
 generalize ((w.alloc (.cells cs 50)).alloc (.cells #[.int .i64 f, .bool u, .bool v, .int .i64 a, .int .i64 b, .int .i64 2, .int .i64 c, .int .i64 n] 92)).alloc (.cells #[.int .u32 0, .int .u32 0, .int .u32 0, .int .u32 0, .int .u32 0, .int .u32 0, .int .u32 0, .int .u32 0, .int .u32 0, .int .u32 0, .int .u32 0, .int .u32 0, .int .u32 0, .int .u32 0, .int .u32 0, .int .u32 0, .int .u32 0, .bool false, .bool false, .bool false, .bool false, .int .u32 0] 50) = W at K0 K1 K2 KB ⊢
 have i0 : W.cell? ⟨w.heap.size + 1, 0, none⟩ = some (.int .i64 f) := K1.out.cell 0
 have i2 : W.cell? ⟨w.heap.size + 1, 2, none⟩ = some (.bool v) := K1.out.cell 2
 have i4 : W.cell? ⟨w.heap.size + 1, 4, none⟩ = some (.int .i64 b) := K1.out.cell 4
 have i5 : W.cell? ⟨w.heap.size + 1, 5, none⟩ = some (.int .i64 2) := K1.out.cell 5
 have i6 : W.cell? ⟨w.heap.size + 1, 6, none⟩ = some (.int .i64 c) := K1.out.cell 6
 have i7 : W.cell? ⟨w.heap.size + 1, 7, none⟩ = some (.int .i64 n) := K1.out.cell 7
 have oc := (K0.out.cell c).trans HRC.out
 have ob := (K0.out.cell b).trans HRB.out
 go_upto_if 18 with fail
 go_cut [6] from 11 to 25 (fun s6 wx => s6 = .int .u32 (opX cs f v c n) ∧ W = wx)
 case first =>
  rcases hf with rfl | rfl
  ·go_wp2_with fail
   go_meet
   exact ⟨rfl, rfl⟩
  ·cases v
   ·go_wp2_with fail
    go_meet
    exact ⟨rfl, rfl⟩
   ·go_wp2_with fail
    go_meet
    exact ⟨rfl, rfl⟩
 case rest =>
  obtain ⟨rfl, rfl⟩ := hcut
  clear oc hot i0 i2 i6 i7 hcc hrc0 hrc1 HRC
  generalize hx : opX cs f v c n = x at hX0 hX1 ⊢
  generalize hy : rgV cs b = y at hrb0 hrb1 HRB ob ⊢
  have HX := hid hx
  have HY := hid hy
  clear hx hy
  obtain ⟨m, hm⟩ : ∃ m : Nat, x % 32 = (m : Int) := ⟨(x % 32).toNat, by omega⟩
  have hm31 : (m : Int) ≤ 31 := by omega
  have HM : Hid ((x % 32).toNat = m) := by unfold Hid; omega
  have HV : Hid (0 ≤ (asrV y m) ∧ (asrV y m) < 4294967296) := asrV_bd _ _
  go_upto_region 14 with fail
  clear i5 ob
  have J0 : Hid (Blk W.drew w.heap.size cs 50) := K0.out
  have J1 : Hid (Blk W.drew (w.heap.size + 1) #[.int .i64 f, .bool u, .bool v, .int .i64 a, .int .i64 b, .int .i64 2, .int .i64 c, .int .i64 n] 92) := K1.out
  have J2 : Hid (Blk W.drew (w.heap.size + 1 + 1) #[.int .u32 0, .int .u32 0, .int .u32 0, .int .u32 0, .int .u32 0, .int .u32 0, .int .u32 0, .int .u32 0, .int .u32 0, .int .u32 0, .int .u32 0, .int .u32 0, .int .u32 0, .int .u32 0, .int .u32 0, .int .u32 0, .int .u32 0, .bool false, .bool false, .bool false, .bool false, .int .u32 0] 50) := K2.out
  have JB : Hid (Below w.heap.size w W.drew) := belDr KB.out
  refine wp_region_held_drew (S := (fun w' => Hid (Blk w' w.heap.size cs 50) ∧ Hid (Blk w' (w.heap.size + 1) #[.int .i64 f, .bool u, .bool v, .int .i64 a, .int .i64 b, .int .i64 2, .int .i64 c, .int .i64 n] 92) ∧ Hid (∃ X, Blk w' (w.heap.size + 1 + 1) X 50) ∧ Hid (Below w.heap.size w w'))) (by kernel_rfl) ⟨J0, J1, ⟨_, J2.out⟩, JB⟩ (fun hHeld => ?_)
  refine wpAnyH_take (i := 0) (oi := _) (v := ?v0_8) rfl (by kernel_rfl) (by kernel_rfl) (by kernel_rfl) (fun _ _ _ h => h) (Or.inl ⟨by rfl, ?hy0_8⟩) (by assumption) ?rest0_8
  case hy0_8 => (intro wq hSw; (try dsimp only at hSw); obtain ⟨q0, q1, q2, qB⟩ := hSw; have hl := load_cpu q0.out HC.out.size; have i3 : wq.cell? ⟨w.heap.size + 1, 3, none⟩ = some (.int .i64 a) := q1.out.cell 3; clear q0 q1 q2 qB; simp only [lA, lB, lC]; go_simp; try with_reducible rfl)
  simp only [Act.put, lA, lB, lC, lG, lH, lI]
  refine wpAnyH_take (i := 1) (oi := _) (v := ?v1_9) rfl (by kernel_rfl) (by kernel_rfl) (by kernel_rfl) (fun _ _ _ h => h) (Or.inl ⟨by rfl, ?hy1_9⟩) (by assumption) ?rest1_9
  case hy1_9 => (intro wq hSw; (try dsimp only at hSw); obtain ⟨q0, q1, q2, qB⟩ := hSw; have hl := load_cpu q0.out HC.out.size; have i3 : wq.cell? ⟨w.heap.size + 1, 3, none⟩ = some (.int .i64 a) := q1.out.cell 3; clear q0 q1 q2 qB; simp only [lA, lB, lC]; go_simp; try with_reducible rfl)
  simp only [Act.put, lA, lB, lC, lG, lH, lI]
  refine wpAnyH_take (i := 2) (oi := _) (v := ?v2_10) rfl (by kernel_rfl) (by kernel_rfl) (by kernel_rfl) (fun _ _ _ h => h) (Or.inl ⟨by rfl, ?hy2_10⟩) (by assumption) ?rest2_10
  case hy2_10 => (intro wq hSw; (try dsimp only at hSw); obtain ⟨q0, q1, q2, qB⟩ := hSw; have hl := load_cpu q0.out HC.out.size; have i3 : wq.cell? ⟨w.heap.size + 1, 3, none⟩ = some (.int .i64 a) := q1.out.cell 3; clear q0 q1 q2 qB; simp only [lA, lB, lC]; go_simp; try with_reducible rfl)
  simp only [Act.put, lA, lB, lC, lG, lH, lI]
  refine wpAnyH_take (i := 3) (oi := _) (v := ?v3_11) rfl (by kernel_rfl) (by kernel_rfl) (by kernel_rfl) (fun _ _ _ h => h) (Or.inl ⟨by rfl, ?hy3_11⟩) (by assumption) ?rest3_11
  case hy3_11 => (intro wq hSw; (try dsimp only at hSw); obtain ⟨q0, q1, q2, qB⟩ := hSw; have hl := load_cpu q0.out HC.out.size; have i3 : wq.cell? ⟨w.heap.size + 1, 3, none⟩ = some (.int .i64 a) := q1.out.cell 3; clear q0 q1 q2 qB; simp only [lA, lB, lC]; go_simp; try with_reducible rfl)
  simp only [Act.put, lA, lB, lC, lG, lH, lI]
  refine wpAnyH_take (i := 5) (oi := _) (v := ?v5_12) rfl (by kernel_rfl) (by kernel_rfl) (by kernel_rfl) (fun _ _ _ h => h) (Or.inl ⟨by rfl, ?hy5_12⟩) (by assumption) ?rest5_12
  case hy5_12 => (intro wq hSw; (try dsimp only at hSw); obtain ⟨q0, q1, q2, qB⟩ := hSw; have hl := load_cpu q0.out HC.out.size; have i3 : wq.cell? ⟨w.heap.size + 1, 3, none⟩ = some (.int .i64 a) := q1.out.cell 3; clear q0 q1 q2 qB; simp only [lA, lB, lC]; go_simp; try with_reducible rfl)
  simp only [Act.put, lA, lB, lC, lG, lH, lI]
  refine wpAnyH_ready (rs := [4]) (by kernel_rfl) (by simp) ?_
  refine AllReadyH.cons (o := _) rfl (fun K hK => ?_) AllReadyH.nil
  try simp only [lA, lB, lC]
  go_simp
  go_at_call 105
  refine (number_any _ hrb0 hrb1 _).mono ?_
  rintro e w1 ⟨rfl, rfl⟩
  refine hK.out _ _ ⟨J0, J1, ⟨_, J2.out⟩, JB⟩ (fun _ => ?_)
  try simp only [Act.put, lA, lB, lC, lG, lH, lI]
  refine wpAnyH_take (i := 6) (oi := _) (v := ?v6_13) rfl (by kernel_rfl) (by kernel_rfl) (by kernel_rfl) (fun _ _ _ h => h) (Or.inl ⟨by rfl, ?hy6_13⟩) (by assumption) ?rest6_13
  case hy6_13 => (intro wq hSw; (try dsimp only at hSw); obtain ⟨q0, q1, q2, qB⟩ := hSw; have hl := load_cpu q0.out HC.out.size; have i3 : wq.cell? ⟨w.heap.size + 1, 3, none⟩ = some (.int .i64 a) := q1.out.cell 3; clear q0 q1 q2 qB; simp only [lA, lB, lC]; go_simp; try with_reducible rfl)
  simp only [Act.put, lA, lB, lC, lG, lH, lI]
  refine wpAnyH_take (i := 7) (oi := _) (v := ?v7_14) rfl (by kernel_rfl) (by kernel_rfl) (by kernel_rfl) (fun _ _ _ h => h) (Or.inl ⟨by rfl, ?hy7_14⟩) (by assumption) ?rest7_14
  case hy7_14 => (intro wq hSw; (try dsimp only at hSw); obtain ⟨q0, q1, q2, qB⟩ := hSw; have hl := load_cpu q0.out HC.out.size; have i3 : wq.cell? ⟨w.heap.size + 1, 3, none⟩ = some (.int .i64 a) := q1.out.cell 3; clear q0 q1 q2 qB; simp only [lA, lB, lC]; go_simp; try with_reducible rfl)
  simp only [Act.put, lA, lB, lC, lG, lH, lI]
  refine wpAnyH_ready (rs := [8]) (by kernel_rfl) (by simp) ?_
  refine AllReadyH.cons (o := _) rfl (fun K hK => ?_) AllReadyH.nil
  try simp only [lA, lB, lC]
  go_simp
  go_at_call 93
  refine (gets_any cs HC.out a ha _ (HV.out.1) (HV.out.2) _).mono ?_
  rintro e w2 ⟨rfl, hb2⟩
  have L0 := hid (J0.out.step hb2)
  have L1 := hid (J1.out.step hb2)
  have L2 := hid (J2.out.step hb2)
  have LB := hid (JB.out.trans (hb2.mono JB.out.size))
  refine hK.out _ _ ⟨L0, L1, ⟨_, L2.out⟩, LB⟩ (fun _ => ?_)
  try simp only [Act.put, lA, lB, lC, lG, lH, lI]
  refine wpAnyH_ready (rs := [9]) (by kernel_rfl) (by simp) ?_
  refine AllReadyH.cons (o := _) rfl (fun K hK => ?_) AllReadyH.nil
  try simp only [lA, lB, lC]
  go_simp
  have hst := store_cpu (cs := fin cs a (asrV y m)) L2.out rfl (fin_size HC.out.size) (fin_one HC.out.one)
  go_simp
  have N0 := hid (L0.out.farRow (k := w.heap.size + 1 + 1) (by omega) (fin cs a (asrV y m)))
  have N1 := hid (L1.out.farRow (k := w.heap.size + 1 + 1) (by omega) (fin cs a (asrV y m)))
  have MB := hid (belRow LB.out (g := w.heap.size + 1 + 1) (by omega) (fin cs a (asrV y m)))
  have KRES := hid (loadVar_cpu (L2.out.setRow (fin cs a (asrV y m))) (fin_size HC.out.size))
  have N2 := hid (L2.out.setRow (fin cs a (asrV y m)))
  refine hK.out _ _ ⟨N0, N1, ⟨_, N2.out⟩, MB⟩ (fun _ => ?_)
  try simp only [Act.put, lA, lB, lC, lG, lH, lI]
  refine wpAnyH_take (i := 10) (oi := _) (v := ?v10_15) rfl (by kernel_rfl) (by kernel_rfl) (by kernel_rfl) (fun _ _ _ h => h) (Or.inl ⟨by rfl, ?hy10_15⟩) (by assumption) ?rest10_15
  case hy10_15 => (intro wq hSw; (try dsimp only at hSw); simp only [lA, lB, lC]; go_simp; try with_reducible rfl)
  simp only [Act.put, lA, lB, lC, lG, lH, lI]
  refine wpAnyH_done (by kernel_rfl) ?_ _
  go_wp2_with fail
  have hres := KRES.out
  refine bodyPost_ret (v := .tuple #[.agg (fin cs a (asrV y m)), .bool true]) ?_ rfl ⟨by rw [HX.out, HY.out, HM.out], MB.out⟩
  simp [results, Tryz.results94, asAddr, hres]
set_option maxRecDepth 100000 in
theorem rk_3 (cs : Array Value) (hc : CpuOk cs) (f : Int) (hf : f = 0 ∨ f = 1) (u v : Bool) (a b c : Nat) (n : Int) (hr : rightB f u v a b 3 c n = true) (w : World) :
 Calls Tryz.prog 94 #[.agg cs, ins f u v a b 3 c n] w fun e w' => e = .returned (.tuple #[.agg (fin cs a (rorV (rgV cs b) ((opX cs f v c n) % 32).toNat)), .bool true]) ∧ Below w.heap.size w w' := by
 have hn := reck_n (hf) hr
 have hn0 := hn.1
 have hn1 := hn.2
 clear hn
 have ha : a ≤ 15 := by have := (right_inv hr).1; omega
 have hbb : (b : Int) < 16 := by have := (right_inv hr).2.1; omega
 have hcc : (c : Int) < 16 := by have := (right_inv hr).2.2.1; omega
 obtain ⟨hrc, hrc0, hrc1⟩ := hc.rg (k := c) (by omega)
 obtain ⟨hrb, hrb0, hrb1⟩ := hc.rg (k := b) (by omega)
 obtain ⟨hX0, hX1⟩ := opX_bd hc f v (by omega : c ≤ 15) hn0 hn1
 have hot := or_top n hn0 hn1
 have HRC := hid hrc
 have HRB := hid hrb
 have HC := hid hc
 have HR := hid hr
 clear hrc hrb hc hr
 unfold ins
 obtain ⟨h0, h1, h2, hs, hB⟩ := three_made w cs #[.int .i64 f, .bool u, .bool v, .int .i64 a, .int .i64 b, .int .i64 3, .int .i64 c, .int .i64 n] #[.int .u32 0, .int .u32 0, .int .u32 0, .int .u32 0, .int .u32 0, .int .u32 0, .int .u32 0, .int .u32 0, .int .u32 0, .int .u32 0, .int .u32 0, .int .u32 0, .int .u32 0, .int .u32 0, .int .u32 0, .int .u32 0, .int .u32 0, .bool false, .bool false, .bool false, .bool false, .int .u32 0] 50 92 50
 have K0 := hid h0
 have K1 := hid h1
 have K2 := hid h2
 have KB := hid hB
 clear h0 h1 h2 hs hB
 go_enter Tryz.func94, Tryz.ntmps94
 go_upto_region 1 with fail
 generalize ((w.alloc (.cells cs 50)).alloc (.cells #[.int .i64 f, .bool u, .bool v, .int .i64 a, .int .i64 b, .int .i64 3, .int .i64 c, .int .i64 n] 92)).alloc (.cells #[.int .u32 0, .int .u32 0, .int .u32 0, .int .u32 0, .int .u32 0, .int .u32 0, .int .u32 0, .int .u32 0, .int .u32 0, .int .u32 0, .int .u32 0, .int .u32 0, .int .u32 0, .int .u32 0, .int .u32 0, .int .u32 0, .int .u32 0, .bool false, .bool false, .bool false, .bool false, .int .u32 0] 50) = W at K0 K1 K2 KB ⊢
 have i0 : W.cell? ⟨w.heap.size + 1, 0, none⟩ = some (.int .i64 f) := K1.out.cell 0
 have i2 : W.cell? ⟨w.heap.size + 1, 2, none⟩ = some (.bool v) := K1.out.cell 2
 have i4 : W.cell? ⟨w.heap.size + 1, 4, none⟩ = some (.int .i64 b) := K1.out.cell 4
 have i5 : W.cell? ⟨w.heap.size + 1, 5, none⟩ = some (.int .i64 3) := K1.out.cell 5
 have i6 : W.cell? ⟨w.heap.size + 1, 6, none⟩ = some (.int .i64 c) := K1.out.cell 6
 have i7 : W.cell? ⟨w.heap.size + 1, 7, none⟩ = some (.int .i64 n) := K1.out.cell 7
 have oc := (K0.out.cell c).trans HRC.out
 have ob := (K0.out.cell b).trans HRB.out
 go_upto_if 18 with fail
 go_cut [6] from 11 to 25 (fun s6 wx => s6 = .int .u32 (opX cs f v c n) ∧ W = wx)
 case first =>
  rcases hf with rfl | rfl
  ·go_wp2_with fail
   go_meet
   exact ⟨rfl, rfl⟩
  ·cases v
   ·go_wp2_with fail
    go_meet
    exact ⟨rfl, rfl⟩
   ·go_wp2_with fail
    go_meet
    exact ⟨rfl, rfl⟩
 case rest =>
  obtain ⟨rfl, rfl⟩ := hcut
  clear oc hot i0 i2 i6 i7 hcc hrc0 hrc1 HRC
  generalize hx : opX cs f v c n = x at hX0 hX1 ⊢
  generalize hy : rgV cs b = y at hrb0 hrb1 HRB ob ⊢
  have HX := hid hx
  have HY := hid hy
  clear hx hy
  obtain ⟨m, hm⟩ : ∃ m : Nat, x % 32 = (m : Int) := ⟨(x % 32).toNat, by omega⟩
  have hm31 : (m : Int) ≤ 31 := by omega
  have HM : Hid ((x % 32).toNat = m) := by unfold Hid; omega
  have HV : Hid (0 ≤ (rorV y m) ∧ (rorV y m) < 4294967296) := rorV_bd _ _ (by omega) hrb0 hrb1
  go_upto_region 16 with fail
  clear i5 ob
  have J0 : Hid (Blk W.drew w.heap.size cs 50) := K0.out
  have J1 : Hid (Blk W.drew (w.heap.size + 1) #[.int .i64 f, .bool u, .bool v, .int .i64 a, .int .i64 b, .int .i64 3, .int .i64 c, .int .i64 n] 92) := K1.out
  have J2 : Hid (Blk W.drew (w.heap.size + 1 + 1) #[.int .u32 0, .int .u32 0, .int .u32 0, .int .u32 0, .int .u32 0, .int .u32 0, .int .u32 0, .int .u32 0, .int .u32 0, .int .u32 0, .int .u32 0, .int .u32 0, .int .u32 0, .int .u32 0, .int .u32 0, .int .u32 0, .int .u32 0, .bool false, .bool false, .bool false, .bool false, .int .u32 0] 50) := K2.out
  have JB : Hid (Below w.heap.size w W.drew) := belDr KB.out
  refine wp_region_held_drew (S := (fun w' => Hid (Blk w' w.heap.size cs 50) ∧ Hid (Blk w' (w.heap.size + 1) #[.int .i64 f, .bool u, .bool v, .int .i64 a, .int .i64 b, .int .i64 3, .int .i64 c, .int .i64 n] 92) ∧ Hid (∃ X, Blk w' (w.heap.size + 1 + 1) X 50) ∧ Hid (Below w.heap.size w w'))) (by kernel_rfl) ⟨J0, J1, ⟨_, J2.out⟩, JB⟩ (fun hHeld => ?_)
  refine wpAnyH_take (i := 0) (oi := _) (v := ?v0_16) rfl (by kernel_rfl) (by kernel_rfl) (by kernel_rfl) (fun _ _ _ h => h) (Or.inl ⟨by rfl, ?hy0_16⟩) (by assumption) ?rest0_16
  case hy0_16 => (intro wq hSw; (try dsimp only at hSw); obtain ⟨q0, q1, q2, qB⟩ := hSw; have hl := load_cpu q0.out HC.out.size; have i3 : wq.cell? ⟨w.heap.size + 1, 3, none⟩ = some (.int .i64 a) := q1.out.cell 3; clear q0 q1 q2 qB; simp only [lA, lB, lC]; go_simp; try with_reducible rfl)
  simp only [Act.put, lA, lB, lC, lG, lH, lI]
  refine wpAnyH_take (i := 1) (oi := _) (v := ?v1_17) rfl (by kernel_rfl) (by kernel_rfl) (by kernel_rfl) (fun _ _ _ h => h) (Or.inl ⟨by rfl, ?hy1_17⟩) (by assumption) ?rest1_17
  case hy1_17 => (intro wq hSw; (try dsimp only at hSw); obtain ⟨q0, q1, q2, qB⟩ := hSw; have hl := load_cpu q0.out HC.out.size; have i3 : wq.cell? ⟨w.heap.size + 1, 3, none⟩ = some (.int .i64 a) := q1.out.cell 3; clear q0 q1 q2 qB; simp only [lA, lB, lC]; go_simp; try with_reducible rfl)
  simp only [Act.put, lA, lB, lC, lG, lH, lI]
  refine wpAnyH_take (i := 2) (oi := _) (v := ?v2_18) rfl (by kernel_rfl) (by kernel_rfl) (by kernel_rfl) (fun _ _ _ h => h) (Or.inl ⟨by rfl, ?hy2_18⟩) (by assumption) ?rest2_18
  case hy2_18 => (intro wq hSw; (try dsimp only at hSw); obtain ⟨q0, q1, q2, qB⟩ := hSw; have hl := load_cpu q0.out HC.out.size; have i3 : wq.cell? ⟨w.heap.size + 1, 3, none⟩ = some (.int .i64 a) := q1.out.cell 3; clear q0 q1 q2 qB; simp only [lA, lB, lC]; go_simp; try with_reducible rfl)
  simp only [Act.put, lA, lB, lC, lG, lH, lI]
  refine wpAnyH_take (i := 3) (oi := _) (v := ?v3_19) rfl (by kernel_rfl) (by kernel_rfl) (by kernel_rfl) (fun _ _ _ h => h) (Or.inl ⟨by rfl, ?hy3_19⟩) (by assumption) ?rest3_19
  case hy3_19 => (intro wq hSw; (try dsimp only at hSw); obtain ⟨q0, q1, q2, qB⟩ := hSw; have hl := load_cpu q0.out HC.out.size; have i3 : wq.cell? ⟨w.heap.size + 1, 3, none⟩ = some (.int .i64 a) := q1.out.cell 3; clear q0 q1 q2 qB; simp only [lA, lB, lC]; go_simp; try with_reducible rfl)
  simp only [Act.put, lA, lB, lC, lG, lH, lI]
  refine wpAnyH_take (i := 4) (oi := _) (v := ?v4_20) rfl (by kernel_rfl) (by kernel_rfl) (by kernel_rfl) (fun _ _ _ h => h) (Or.inl ⟨by rfl, ?hy4_20⟩) (by assumption) ?rest4_20
  case hy4_20 => (intro wq hSw; (try dsimp only at hSw); obtain ⟨q0, q1, q2, qB⟩ := hSw; have hl := load_cpu q0.out HC.out.size; have i3 : wq.cell? ⟨w.heap.size + 1, 3, none⟩ = some (.int .i64 a) := q1.out.cell 3; clear q0 q1 q2 qB; simp only [lA, lB, lC]; go_simp; try with_reducible rfl)
  simp only [Act.put, lA, lB, lC, lG, lH, lI]
  refine wpAnyH_ready (rs := [5]) (by kernel_rfl) (by simp) ?_
  refine AllReadyH.cons (o := _) rfl (fun K hK => ?_) AllReadyH.nil
  try simp only [lA, lB, lC]
  go_simp
  go_at_call 106
  refine (turned_any y m (by omega) hrb0 hrb1 _).mono ?_
  rintro e w1 ⟨rfl, rfl⟩
  refine hK.out _ _ ⟨J0, J1, ⟨_, J2.out⟩, JB⟩ (fun _ => ?_)
  try simp only [Act.put, lA, lB, lC, lG, lH, lI]
  refine wpAnyH_ready (rs := [6]) (by kernel_rfl) (by simp) ?_
  refine AllReadyH.cons (o := _) rfl (fun K hK => ?_) AllReadyH.nil
  try simp only [lA, lB, lC]
  go_simp
  go_at_call 93
  refine (gets_any cs HC.out a ha _ (HV.out.1) (HV.out.2) _).mono ?_
  rintro e w2 ⟨rfl, hb2⟩
  have L0 := hid (J0.out.step hb2)
  have L1 := hid (J1.out.step hb2)
  have L2 := hid (J2.out.step hb2)
  have LB := hid (JB.out.trans (hb2.mono JB.out.size))
  refine hK.out _ _ ⟨L0, L1, ⟨_, L2.out⟩, LB⟩ (fun _ => ?_)
  try simp only [Act.put, lA, lB, lC, lG, lH, lI]
  refine wpAnyH_ready (rs := [7]) (by kernel_rfl) (by simp) ?_
  refine AllReadyH.cons (o := _) rfl (fun K hK => ?_) AllReadyH.nil
  try simp only [lA, lB, lC]
  go_simp
  have hst := store_cpu (cs := fin cs a (rorV y m)) L2.out rfl (fin_size HC.out.size) (fin_one HC.out.one)
  go_simp
  have N0 := hid (L0.out.farRow (k := w.heap.size + 1 + 1) (by omega) (fin cs a (rorV y m)))
  have N1 := hid (L1.out.farRow (k := w.heap.size + 1 + 1) (by omega) (fin cs a (rorV y m)))
  have MB := hid (belRow LB.out (g := w.heap.size + 1 + 1) (by omega) (fin cs a (rorV y m)))
  have KRES := hid (loadVar_cpu (L2.out.setRow (fin cs a (rorV y m))) (fin_size HC.out.size))
  have N2 := hid (L2.out.setRow (fin cs a (rorV y m)))
  refine hK.out _ _ ⟨N0, N1, ⟨_, N2.out⟩, MB⟩ (fun _ => ?_)
  try simp only [Act.put, lA, lB, lC, lG, lH, lI]
  refine wpAnyH_take (i := 8) (oi := _) (v := ?v8_21) rfl (by kernel_rfl) (by kernel_rfl) (by kernel_rfl) (fun _ _ _ h => h) (Or.inl ⟨by rfl, ?hy8_21⟩) (by assumption) ?rest8_21
  case hy8_21 => (intro wq hSw; (try dsimp only at hSw); simp only [lA, lB, lC]; go_simp; try with_reducible rfl)
  simp only [Act.put, lA, lB, lC, lG, lH, lI]
  refine wpAnyH_done (by kernel_rfl) ?_ _
  go_wp2_with fail
  have hres := KRES.out
  refine bodyPost_ret (v := .tuple #[.agg (fin cs a (rorV y m)), .bool true]) ?_ rfl ⟨by rw [HX.out, HY.out, HM.out], MB.out⟩
  simp [results, Tryz.results94, asAddr, hres]
set_option maxRecDepth 100000 in
theorem rk_0 (cs : Array Value) (hc : CpuOk cs) (f : Int) (hf : f = 0 ∨ f = 1) (u v : Bool) (a b c : Nat) (n : Int) (hr : rightB f u v a b 0 c n = true) (w : World) :
 Calls Tryz.prog 94 #[.agg cs, ins f u v a b 0 c n] w fun e w' => e = .returned (.tuple #[.agg (fin cs a (movedV cs f u v n (opX cs f v c n))), .bool true]) ∧ Below w.heap.size w w' := by
 have hn := reck_n (hf) hr
 have hn0 := hn.1
 have hn1 := hn.2
 clear hn
 have ha : a ≤ 15 := by have := (right_inv hr).1; omega
 have hbb : (b : Int) < 16 := by have := (right_inv hr).2.1; omega
 have hcc : (c : Int) < 16 := by have := (right_inv hr).2.2.1; omega
 obtain ⟨hrc, hrc0, hrc1⟩ := hc.rg (k := c) (by omega)
 obtain ⟨hrb, hrb0, hrb1⟩ := hc.rg (k := b) (by omega)
 obtain ⟨hX0, hX1⟩ := opX_bd hc f v (by omega : c ≤ 15) hn0 hn1
 have hot := or_top n hn0 hn1
 have HRC := hid hrc
 have HRB := hid hrb
 have HC := hid hc
 have HR := hid hr
 clear hrc hrb hc hr
 unfold ins
 obtain ⟨h0, h1, h2, hs, hB⟩ := three_made w cs #[.int .i64 f, .bool u, .bool v, .int .i64 a, .int .i64 b, .int .i64 0, .int .i64 c, .int .i64 n] #[.int .u32 0, .int .u32 0, .int .u32 0, .int .u32 0, .int .u32 0, .int .u32 0, .int .u32 0, .int .u32 0, .int .u32 0, .int .u32 0, .int .u32 0, .int .u32 0, .int .u32 0, .int .u32 0, .int .u32 0, .int .u32 0, .int .u32 0, .bool false, .bool false, .bool false, .bool false, .int .u32 0] 50 92 50
 have K0 := hid h0
 have K1 := hid h1
 have K2 := hid h2
 have KB := hid hB
 clear h0 h1 h2 hs hB
 go_enter Tryz.func94, Tryz.ntmps94
 go_upto_region 1 with fail
 generalize ((w.alloc (.cells cs 50)).alloc (.cells #[.int .i64 f, .bool u, .bool v, .int .i64 a, .int .i64 b, .int .i64 0, .int .i64 c, .int .i64 n] 92)).alloc (.cells #[.int .u32 0, .int .u32 0, .int .u32 0, .int .u32 0, .int .u32 0, .int .u32 0, .int .u32 0, .int .u32 0, .int .u32 0, .int .u32 0, .int .u32 0, .int .u32 0, .int .u32 0, .int .u32 0, .int .u32 0, .int .u32 0, .int .u32 0, .bool false, .bool false, .bool false, .bool false, .int .u32 0] 50) = W at K0 K1 K2 KB ⊢
 have i0 : W.cell? ⟨w.heap.size + 1, 0, none⟩ = some (.int .i64 f) := K1.out.cell 0
 have i2 : W.cell? ⟨w.heap.size + 1, 2, none⟩ = some (.bool v) := K1.out.cell 2
 have i4 : W.cell? ⟨w.heap.size + 1, 4, none⟩ = some (.int .i64 b) := K1.out.cell 4
 have i5 : W.cell? ⟨w.heap.size + 1, 5, none⟩ = some (.int .i64 0) := K1.out.cell 5
 have i6 : W.cell? ⟨w.heap.size + 1, 6, none⟩ = some (.int .i64 c) := K1.out.cell 6
 have i7 : W.cell? ⟨w.heap.size + 1, 7, none⟩ = some (.int .i64 n) := K1.out.cell 7
 have oc := (K0.out.cell c).trans HRC.out
 have ob := (K0.out.cell b).trans HRB.out
 go_upto_if 18 with fail
 go_cut [6] from 11 to 25 (fun s6 wx => s6 = .int .u32 (opX cs f v c n) ∧ W = wx)
 case first =>
  rcases hf with rfl | rfl
  ·go_wp2_with fail
   go_meet
   exact ⟨rfl, rfl⟩
  ·cases v
   ·go_wp2_with fail
    go_meet
    exact ⟨rfl, rfl⟩
   ·go_wp2_with fail
    go_meet
    exact ⟨rfl, rfl⟩
 case rest =>
  obtain ⟨rfl, rfl⟩ := hcut
  clear oc hot i0 i2 i6 i7 hcc hrc0 hrc1 HRC
  generalize hx : opX cs f v c n = x at hX0 hX1 ⊢
  generalize hy : rgV cs b = y at hrb0 hrb1 HRB ob ⊢
  have HX := hid hx
  have HY := hid hy
  clear hx hy
  obtain ⟨m, hm⟩ : ∃ m : Nat, x % 32 = (m : Int) := ⟨(x % 32).toNat, by omega⟩
  have hm31 : (m : Int) ≤ 31 := by omega
  have HM : Hid ((x % 32).toNat = m) := by unfold Hid; omega
  have HV : Hid (0 ≤ (movedV cs f u v n x) ∧ (movedV cs f u v n x) < 4294967296) := movedV_bd HC.out f u v hn0 hn1 hX0 hX1
  go_upto_region 10 with fail
  clear i5 ob
  have J0 : Hid (Blk W.drew w.heap.size cs 50) := K0.out
  have J1 : Hid (Blk W.drew (w.heap.size + 1) #[.int .i64 f, .bool u, .bool v, .int .i64 a, .int .i64 b, .int .i64 0, .int .i64 c, .int .i64 n] 92) := K1.out
  have J2 : Hid (Blk W.drew (w.heap.size + 1 + 1) #[.int .u32 0, .int .u32 0, .int .u32 0, .int .u32 0, .int .u32 0, .int .u32 0, .int .u32 0, .int .u32 0, .int .u32 0, .int .u32 0, .int .u32 0, .int .u32 0, .int .u32 0, .int .u32 0, .int .u32 0, .int .u32 0, .int .u32 0, .bool false, .bool false, .bool false, .bool false, .int .u32 0] 50) := K2.out
  have JB : Hid (Below w.heap.size w W.drew) := belDr KB.out
  refine wp_region_held_drew (S := (fun w' => Hid (Blk w' w.heap.size cs 50) ∧ Hid (Blk w' (w.heap.size + 1) #[.int .i64 f, .bool u, .bool v, .int .i64 a, .int .i64 b, .int .i64 0, .int .i64 c, .int .i64 n] 92) ∧ Hid (∃ X, Blk w' (w.heap.size + 1 + 1) X 50) ∧ Hid (Below w.heap.size w w'))) (by kernel_rfl) ⟨J0, J1, ⟨_, J2.out⟩, JB⟩ (fun hHeld => ?_)
  refine wpAnyH_take (i := 0) (oi := _) (v := ?v0_22) rfl (by kernel_rfl) (by kernel_rfl) (by kernel_rfl) (fun _ _ _ h => h) (Or.inl ⟨by rfl, ?hy0_22⟩) (by assumption) ?rest0_22
  case hy0_22 => (intro wq hSw; (try dsimp only at hSw); obtain ⟨q0, q1, q2, qB⟩ := hSw; have hl := load_cpu q0.out HC.out.size; have i3 : wq.cell? ⟨w.heap.size + 1, 3, none⟩ = some (.int .i64 a) := q1.out.cell 3; clear q0 q1 q2 qB; simp only [lA, lB, lC]; go_simp; try with_reducible rfl)
  simp only [Act.put, lA, lB, lC, lG, lH, lI]
  refine wpAnyH_take (i := 1) (oi := _) (v := ?v1_23) rfl (by kernel_rfl) (by kernel_rfl) (by kernel_rfl) (fun _ _ _ h => h) (Or.inl ⟨by rfl, ?hy1_23⟩) (by assumption) ?rest1_23
  case hy1_23 => (intro wq hSw; (try dsimp only at hSw); obtain ⟨q0, q1, q2, qB⟩ := hSw; have hl := load_cpu q0.out HC.out.size; have i3 : wq.cell? ⟨w.heap.size + 1, 3, none⟩ = some (.int .i64 a) := q1.out.cell 3; clear q0 q1 q2 qB; simp only [lA, lB, lC]; go_simp; try with_reducible rfl)
  simp only [Act.put, lA, lB, lC, lG, lH, lI]
  refine wpAnyH_take (i := 2) (oi := _) (v := ?v2_24) rfl (by kernel_rfl) (by kernel_rfl) (by kernel_rfl) (fun _ _ _ h => h) (Or.inl ⟨by rfl, ?hy2_24⟩) (by assumption) ?rest2_24
  case hy2_24 => (intro wq hSw; (try dsimp only at hSw); obtain ⟨q0, q1, q2, qB⟩ := hSw; have hl := load_cpu q0.out HC.out.size; have i3 : wq.cell? ⟨w.heap.size + 1, 3, none⟩ = some (.int .i64 a) := q1.out.cell 3; clear q0 q1 q2 qB; simp only [lA, lB, lC]; go_simp; try with_reducible rfl)
  simp only [Act.put, lA, lB, lC, lG, lH, lI]
  refine wpAnyH_take (i := 3) (oi := _) (v := ?v3_25) rfl (by kernel_rfl) (by kernel_rfl) (by kernel_rfl) (fun _ _ _ h => h) (Or.inl ⟨by rfl, ?hy3_25⟩) (by assumption) ?rest3_25
  case hy3_25 => (intro wq hSw; (try dsimp only at hSw); obtain ⟨q0, q1, q2, qB⟩ := hSw; have hl := load_cpu q0.out HC.out.size; have i3 : wq.cell? ⟨w.heap.size + 1, 3, none⟩ = some (.int .i64 a) := q1.out.cell 3; clear q0 q1 q2 qB; simp only [lA, lB, lC]; go_simp; try with_reducible rfl)
  simp only [Act.put, lA, lB, lC, lG, lH, lI]
  refine wpAnyH_take (i := 4) (oi := _) (v := ?v4_26) rfl (by kernel_rfl) (by kernel_rfl) (by kernel_rfl) (fun _ _ _ h => h) (Or.inl ⟨by rfl, ?hy4_26⟩) (by assumption) ?rest4_26
  case hy4_26 => (intro wq hSw; (try dsimp only at hSw); obtain ⟨q0, q1, q2, qB⟩ := hSw; have hl := load_cpu q0.out HC.out.size; have i3 : wq.cell? ⟨w.heap.size + 1, 3, none⟩ = some (.int .i64 a) := q1.out.cell 3; have j0 := q1.out.cell 0; have j1 := q1.out.cell 1; have j2 := q1.out.cell 2; have j4 := q1.out.cell 4; have j5 := q1.out.cell 5; have j6 := q1.out.cell 6; have j7 := q1.out.cell 7; clear q0 q1 q2 qB; simp only [List.getElem?_toArray, List.getElem?_cons_zero, List.getElem?_cons_succ] at j0 j1 j2 j4 j5 j6 j7; simp only [lA, lB, lC]; go_simp; try with_reducible rfl)
  simp only [Act.put, lA, lB, lC, lG, lH, lI]
  refine wpAnyH_take (i := 5) (oi := _) (v := ?v5_27) rfl (by kernel_rfl) (by kernel_rfl) (by kernel_rfl) (fun _ _ _ h => h) (Or.inl ⟨by rfl, ?hy5_27⟩) (by assumption) ?rest5_27
  case hy5_27 => (intro wq hSw; (try dsimp only at hSw); obtain ⟨q0, q1, q2, qB⟩ := hSw; have hl := load_cpu q0.out HC.out.size; have i3 : wq.cell? ⟨w.heap.size + 1, 3, none⟩ = some (.int .i64 a) := q1.out.cell 3; clear q0 q1 q2 qB; simp only [lA, lB, lC]; go_simp; try with_reducible rfl)
  simp only [Act.put, lA, lB, lC, lG, lH, lI]
  refine wpAnyH_ready (rs := [6]) (by kernel_rfl) (by simp) ?_
  refine AllReadyH.cons (o := _) rfl (fun K hK => ?_) AllReadyH.nil
  try simp only [lA, lB, lC]
  go_simp
  go_at_call 104
  refine (moved_any cs HC.out f hf u v a b 0 c n x hn0 hn1 _).mono ?_
  rintro e w1 ⟨rfl, hb1⟩
  have J0 := hid (J0.out.step hb1)
  have J1 := hid (J1.out.step hb1)
  have J2 := hid (J2.out.step hb1)
  have JB := hid (JB.out.trans (hb1.mono JB.out.size))
  clear hb1
  refine hK.out _ _ ⟨J0, J1, ⟨_, J2.out⟩, JB⟩ (fun _ => ?_)
  try simp only [Act.put, lA, lB, lC, lG, lH, lI]
  refine wpAnyH_ready (rs := [7]) (by kernel_rfl) (by simp) ?_
  refine AllReadyH.cons (o := _) rfl (fun K hK => ?_) AllReadyH.nil
  try simp only [lA, lB, lC]
  go_simp
  go_at_call 93
  refine (gets_any cs HC.out a ha _ (HV.out.1) (HV.out.2) _).mono ?_
  rintro e w2 ⟨rfl, hb2⟩
  have L0 := hid (J0.out.step hb2)
  have L1 := hid (J1.out.step hb2)
  have L2 := hid (J2.out.step hb2)
  have LB := hid (JB.out.trans (hb2.mono JB.out.size))
  refine hK.out _ _ ⟨L0, L1, ⟨_, L2.out⟩, LB⟩ (fun _ => ?_)
  try simp only [Act.put, lA, lB, lC, lG, lH, lI]
  refine wpAnyH_ready (rs := [8]) (by kernel_rfl) (by simp) ?_
  refine AllReadyH.cons (o := _) rfl (fun K hK => ?_) AllReadyH.nil
  try simp only [lA, lB, lC]
  go_simp
  have hst := store_cpu (cs := fin cs a (movedV cs f u v n x)) L2.out rfl (fin_size HC.out.size) (fin_one HC.out.one)
  go_simp
  have N0 := hid (L0.out.farRow (k := w.heap.size + 1 + 1) (by omega) (fin cs a (movedV cs f u v n x)))
  have N1 := hid (L1.out.farRow (k := w.heap.size + 1 + 1) (by omega) (fin cs a (movedV cs f u v n x)))
  have MB := hid (belRow LB.out (g := w.heap.size + 1 + 1) (by omega) (fin cs a (movedV cs f u v n x)))
  have KRES := hid (loadVar_cpu (L2.out.setRow (fin cs a (movedV cs f u v n x))) (fin_size HC.out.size))
  have N2 := hid (L2.out.setRow (fin cs a (movedV cs f u v n x)))
  refine hK.out _ _ ⟨N0, N1, ⟨_, N2.out⟩, MB⟩ (fun _ => ?_)
  try simp only [Act.put, lA, lB, lC, lG, lH, lI]
  refine wpAnyH_take (i := 9) (oi := _) (v := ?v9_28) rfl (by kernel_rfl) (by kernel_rfl) (by kernel_rfl) (fun _ _ _ h => h) (Or.inl ⟨by rfl, ?hy9_28⟩) (by assumption) ?rest9_28
  case hy9_28 => (intro wq hSw; (try dsimp only at hSw); simp only [lA, lB, lC]; go_simp; try with_reducible rfl)
  simp only [Act.put, lA, lB, lC, lG, lH, lI]
  refine wpAnyH_done (by kernel_rfl) ?_ _
  go_wp2_with fail
  have hres := KRES.out
  refine bodyPost_ret (v := .tuple #[.agg (fin cs a (movedV cs f u v n x)), .bool true]) ?_ rfl ⟨by rw [HX.out], MB.out⟩
  simp [results, Tryz.results94, asAddr, hres]
end Go.Proofs.YtgcknekhimpfkaaGreatDoor
