/- The document's access. -/
import Derived.Test.YtgcknekhimpfkaaGreatDoorAcc
import Derived.Test.YtgcknekhimpfkaaGreatDoorQV
namespace Go.Proofs.YtgcknekhimpfkaaGreatDoor
open Go Go.RowKit Go.Lib Go.Proofs.YtgcknekhimpfkaaGreatDoor.Pl
open List renaming getElem_toArray → lA, getElem_cons_zero → lB, getElem_cons_succ → lC, getElem?_toArray → lD, getElem?_cons_zero → lE, getElem?_cons_succ → lF, setIfInBounds_toArray → lG
set_option maxHeartbeats 1000000
set_option linter.unusedVariables false
set_option linter.unusedSimpArgs false
attribute [local go_sem ↓] exec_load_cpu exec_store_cpu exec_load_acc exec_store_acc
theorem rright_yes {f : Int} {u v : Bool} {a b op c n : Int} (hr : rightB f u v a b op c n = true) (w : World) :
 Calls Tryz.prog 86 #[.agg #[.int .i64 f, .bool u, .bool v, .int .i64 a, .int .i64 b, .int .i64 op, .int .i64 c, .int .i64 n]] w fun e w' => e = .returned (.bool true) ∧ Below w.heap.size w w' := by
 have := rright_any f u v a b op c n w
 rw [hr] at this
 exact this
theorem rright_no {f : Int} {u v : Bool} {a b op c n : Int} (hr : rightB f u v a b op c n = false) (w : World) :
 Calls Tryz.prog 86 #[.agg #[.int .i64 f, .bool u, .bool v, .int .i64 a, .int .i64 b, .int .i64 op, .int .i64 c, .int .i64 n]] w fun e w' => e = .returned (.bool false) ∧ Below w.heap.size w w' := by
 have := rright_any f u v a b op c n w
 rw [hr] at this
 exact this
set_option maxRecDepth 100000 in
theorem racc_far (cs : Array Value) (hc : CpuOk cs) (f : Int) (u v : Bool) (a b op c n : Int) (hf : ¬ f = 2) (hr : rightB f u v a b op c n = true) (w : World) (hT : Tab w) :
 Calls Tryz.prog 67 #[.agg cs, .agg #[.int .i64 f, .bool u, .bool v, .int .i64 a, .int .i64 b, .int .i64 op, .int .i64 c, .int .i64 n]] w fun e w' => e = .returned (.agg #[.int .i64 0, .int .u32 0, .int .u32 0]) ∧ Below w.heap.size w w' := by
 have HR := hid hr
 clear hr
 have e1 : decide (f = 2) = false := decide_eq_false hf
 have e2 : (f == 2) = false := by simp [hf]
 have e3 : (f != 2) = true := by simp [hf]
 have HC := hid hc
 have HT := tabHid hT
 clear hc hT
 go_enter Tryz.func67, Tryz.ntmps67
 go_upto_region 1 with fail
 obtain ⟨k0, k1, k2, ks, kb⟩ := three_mk w cs #[.int .i64 f, .bool u, .bool v, .int .i64 a, .int .i64 b, .int .i64 op, .int .i64 c, .int .i64 n] #[.int .i64 0, .int .u32 0, .int .u32 0] 50 92 96
 have K0 := hid k0
 have K1 := hid k1
 have K2 := hid k2
 have KS := hid ks
 have KB := hid kb
 clear k0 k1 k2 ks kb
 generalize ((w.alloc (.cells cs 50)).alloc (.cells #[.int .i64 f, .bool u, .bool v, .int .i64 a, .int .i64 b, .int .i64 op, .int .i64 c, .int .i64 n] 92)).alloc (.cells #[.int .i64 0, .int .u32 0, .int .u32 0] 96) = W0 at K0 K1 K2 KS KB ⊢
 obtain ⟨i0, i1, i2, i3, i4, i5, i6, i7⟩ := accCells K1.out
 go_upto_region 3 with (go_at_call 86; refine (rright_yes HR.out _).mono ?_; rintro e w1 ⟨rfl, hb1⟩; have A0 := hid (K0.out.step hb1); have A1 := hid (K1.out.step hb1); have A2 := hid (K2.out.step hb1); have AB := hid (KB.out.trans (hb1.mono KB.out.size)); clear hb1; obtain ⟨j0, j1, j2, j3, j4, j5, j6, j7⟩ := accCells A1.out)
 have hst := store_acc (cs := #[.int .i64 0, .int .u32 0, .int .u32 0]) A2.out rfl rfl (acc_one 0 0 0)
 have hres := loadVar_acc (A2.out.setRow #[.int .i64 0, .int .u32 0, .int .u32 0]) rfl
 go_wp2_with fail
 refine bodyPost_ret (v := .agg #[.int .i64 0, .int .u32 0, .int .u32 0]) ?_ rfl ⟨rfl, belRow AB.out (by omega) _⟩
 simp [results, Tryz.results67, asAddr, hres]
set_option maxRecDepth 100000 in
theorem racc_bad (cs : Array Value) (hc : CpuOk cs) (f : Int) (u v : Bool) (a b op c n : Int) (hr : rightB f u v a b op c n = false) (w : World) (hT : Tab w) :
 Calls Tryz.prog 67 #[.agg cs, .agg #[.int .i64 f, .bool u, .bool v, .int .i64 a, .int .i64 b, .int .i64 op, .int .i64 c, .int .i64 n]] w fun e w' => e = .returned (.agg #[.int .i64 0, .int .u32 0, .int .u32 0]) ∧ Below w.heap.size w w' := by
 have HR := hid hr
 clear hr
 have HC := hid hc
 have HT := tabHid hT
 clear hc hT
 go_enter Tryz.func67, Tryz.ntmps67
 go_upto_region 1 with fail
 obtain ⟨k0, k1, k2, ks, kb⟩ := three_mk w cs #[.int .i64 f, .bool u, .bool v, .int .i64 a, .int .i64 b, .int .i64 op, .int .i64 c, .int .i64 n] #[.int .i64 0, .int .u32 0, .int .u32 0] 50 92 96
 have K0 := hid k0
 have K1 := hid k1
 have K2 := hid k2
 have KS := hid ks
 have KB := hid kb
 clear k0 k1 k2 ks kb
 generalize ((w.alloc (.cells cs 50)).alloc (.cells #[.int .i64 f, .bool u, .bool v, .int .i64 a, .int .i64 b, .int .i64 op, .int .i64 c, .int .i64 n] 92)).alloc (.cells #[.int .i64 0, .int .u32 0, .int .u32 0] 96) = W0 at K0 K1 K2 KS KB ⊢
 obtain ⟨i0, i1, i2, i3, i4, i5, i6, i7⟩ := accCells K1.out
 go_upto_region 3 with (go_at_call 86; refine (rright_no HR.out _).mono ?_; rintro e w1 ⟨rfl, hb1⟩; have A0 := hid (K0.out.step hb1); have A1 := hid (K1.out.step hb1); have A2 := hid (K2.out.step hb1); have AB := hid (KB.out.trans (hb1.mono KB.out.size)); clear hb1; obtain ⟨j0, j1, j2, j3, j4, j5, j6, j7⟩ := accCells A1.out)
 have hst := store_acc (cs := #[.int .i64 0, .int .u32 0, .int .u32 0]) A2.out rfl rfl (acc_one 0 0 0)
 have hres := loadVar_acc (A2.out.setRow #[.int .i64 0, .int .u32 0, .int .u32 0]) rfl
 go_wp2_with fail
 refine bodyPost_ret (v := .agg #[.int .i64 0, .int .u32 0, .int .u32 0]) ?_ rfl ⟨rfl, belRow AB.out (by omega) _⟩
 simp [results, Tryz.results67, asAddr, hres]
set_option maxRecDepth 100000 in
theorem racc_ff (cs : Array Value) (hc : CpuOk cs) (a b : Nat) (ha : a ≤ 15) (hb : b ≤ 15) (op c n : Int) (hr : rightB 2 false false a b op c n = true) (w : World) (hT : Tab w) :
 Calls Tryz.prog 67 #[.agg cs, .agg #[.int .i64 2, .bool false, .bool false, .int .i64 a, .int .i64 b, .int .i64 op, .int .i64 c, .int .i64 n]] w fun e w' => e = .returned (.agg #[.int .i64 1, .int .u32 ((rgV cs b + n) % 4294967296), .int .u32 0]) ∧ Below w.heap.size w w' := by
 have HR := hid hr
 clear hr
 have HC := hid hc
 have HT := tabHid hT
 clear hc hT
 go_enter Tryz.func67, Tryz.ntmps67
 go_upto_region 1 with fail
 obtain ⟨k0, k1, k2, ks, kb⟩ := three_mk w cs #[.int .i64 2, .bool false, .bool false, .int .i64 a, .int .i64 b, .int .i64 op, .int .i64 c, .int .i64 n] #[.int .i64 0, .int .u32 0, .int .u32 0] 50 92 96
 have K0 := hid k0
 have K1 := hid k1
 have K2 := hid k2
 have KS := hid ks
 have KB := hid kb
 clear k0 k1 k2 ks kb
 generalize ((w.alloc (.cells cs 50)).alloc (.cells #[.int .i64 2, .bool false, .bool false, .int .i64 a, .int .i64 b, .int .i64 op, .int .i64 c, .int .i64 n] 92)).alloc (.cells #[.int .i64 0, .int .u32 0, .int .u32 0] 96) = W0 at K0 K1 K2 KS KB ⊢
 obtain ⟨i0, i1, i2, i3, i4, i5, i6, i7⟩ := accCells K1.out
 go_upto_region 4 with (go_at_call 86; refine (rright_yes HR.out _).mono ?_; rintro e w1 ⟨rfl, hb1⟩; have A0 := hid (K0.out.step hb1); have A1 := hid (K1.out.step hb1); have A2 := hid (K2.out.step hb1); have AS := hid (Nat.le_trans KS.out hb1.size); have AB := hid (KB.out.trans (hb1.mono KB.out.size)); clear hb1; obtain ⟨j0, j1, j2, j3, j4, j5, j6, j7⟩ := accCells A1.out)
 clear i0 i1 i2 i3 i4 i5 i6 i7 j0 j1 j2 j3 j4 j5 j6 j7 K0 K1 K2 KS KB
 obtain ⟨rb, rb0, rb1⟩ := HC.out.rg (k := b) (by omega)
 have RB := hid rb
 obtain ⟨ra, ra0, ra1⟩ := HC.out.rg (k := a) (by omega)
 have RA := hid ra
 clear rb ra
 have J0 : Hid (Blk w1.drew w.heap.size cs 50) := A0.out
 have J1 : Hid (Blk w1.drew (w.heap.size + 1) #[.int .i64 2, .bool false, .bool false, .int .i64 a, .int .i64 b, .int .i64 op, .int .i64 c, .int .i64 n] 92) := A1.out
 have J2 : Hid (Blk w1.drew (w.heap.size + 1 + 1) #[.int .i64 0, .int .u32 0, .int .u32 0] 96) := A2.out
 have JB : Hid (Below w.heap.size w w1.drew) := belN AB.out 1
 have JS : Hid (w.heap.size + 3 ≤ w1.drew.heap.size) := AS.out
 clear A0 A1 A2 AS AB
 refine wp_region_held_drew (S := (fun w' => Hid (Blk w' w.heap.size cs 50) ∧ Hid (Blk w' (w.heap.size + 1) #[.int .i64 2, .bool false, .bool false, .int .i64 a, .int .i64 b, .int .i64 op, .int .i64 c, .int .i64 n] 92))) (by kernel_rfl) ⟨J0, J1⟩ (fun hHeld => ?_)
 clear hHeld
 generalize w1.drew = wd at J0 J1 J2 JB JS ⊢
 have hHeld : ((fun w' => Hid (Blk w' w.heap.size cs 50) ∧ Hid (Blk w' (w.heap.size + 1) #[.int .i64 2, .bool false, .bool false, .int .i64 a, .int .i64 b, .int .i64 op, .int .i64 c, .int .i64 n] 92)) wd) := ⟨J0, J1⟩
 refine tke 0 (v := ?v0_56) ?hy0_56 (by assumption) ?rest0_56
 case hy0_56 => rintro wq ⟨q0, q1⟩; have ib := (q0.out.cell b).trans RB.out; obtain ⟨i0, i1, i2, i3, i4, i5, i6, i7⟩ := accCells q1.out; clear q0 q1; have hib : (b : Int) < 16 := (by omega); have hia : (a : Int) < 16 := (by omega); go_simp; try with_reducible rfl
 refine tke 1 (v := ?v1_57) ?hy1_57 (by assumption) ?rest1_57
 case hy1_57 => rintro wq ⟨q0, q1⟩; have ib := (q0.out.cell b).trans RB.out; obtain ⟨i0, i1, i2, i3, i4, i5, i6, i7⟩ := accCells q1.out; clear q0 q1; have hib : (b : Int) < 16 := (by omega); have hia : (a : Int) < 16 := (by omega); go_simp; try with_reducible rfl
 refine tke 2 (v := ?v2_58) ?hy2_58 (by assumption) ?rest2_58
 case hy2_58 => rintro wq ⟨q0, q1⟩; have ib := (q0.out.cell b).trans RB.out; obtain ⟨i0, i1, i2, i3, i4, i5, i6, i7⟩ := accCells q1.out; clear q0 q1; have hib : (b : Int) < 16 := (by omega); have hia : (a : Int) < 16 := (by omega); go_simp; try with_reducible rfl
 refine tke 3 (v := ?v3_59) ?hy3_59 (by assumption) ?rest3_59
 case hy3_59 => rintro wq ⟨q0, q1⟩; have ib := (q0.out.cell b).trans RB.out; obtain ⟨i0, i1, i2, i3, i4, i5, i6, i7⟩ := accCells q1.out; clear q0 q1; have hib : (b : Int) < 16 := (by omega); have hia : (a : Int) < 16 := (by omega); go_simp; try with_reducible rfl
 refine tke 4 (v := ?v4_60) ?hy4_60 (by assumption) ?rest4_60
 case hy4_60 => rintro wq ⟨q0, q1⟩; have ib := (q0.out.cell b).trans RB.out; obtain ⟨i0, i1, i2, i3, i4, i5, i6, i7⟩ := accCells q1.out; clear q0 q1; have hib : (b : Int) < 16 := (by omega); have hia : (a : Int) < 16 := (by omega); go_simp; try with_reducible rfl
 refine tke 5 (v := ?v5_61) ?hy5_61 (by assumption) ?rest5_61
 case hy5_61 => rintro wq ⟨q0, q1⟩; have ib := (q0.out.cell b).trans RB.out; obtain ⟨i0, i1, i2, i3, i4, i5, i6, i7⟩ := accCells q1.out; clear q0 q1; have hib : (b : Int) < 16 := (by omega); have hia : (a : Int) < 16 := (by omega); go_simp; try with_reducible rfl
 refine tke 6 (v := ?v6_62) ?hy6_62 (by assumption) ?rest6_62
 case hy6_62 => rintro wq ⟨q0, q1⟩; have ib := (q0.out.cell b).trans RB.out; obtain ⟨i0, i1, i2, i3, i4, i5, i6, i7⟩ := accCells q1.out; clear q0 q1; have hib : (b : Int) < 16 := (by omega); have hia : (a : Int) < 16 := (by omega); go_simp; try with_reducible rfl
 refine tke 7 (v := ?v7_63) ?hy7_63 (by assumption) ?rest7_63
 case hy7_63 => rintro wq ⟨q0, q1⟩; have ib := (q0.out.cell b).trans RB.out; obtain ⟨i0, i1, i2, i3, i4, i5, i6, i7⟩ := accCells q1.out; clear q0 q1; have hib : (b : Int) < 16 := (by omega); have hia : (a : Int) < 16 := (by omega); go_simp; try with_reducible rfl
 refine tke 8 (v := ?v8_64) ?hy8_64 (by assumption) ?rest8_64
 case hy8_64 => rintro wq ⟨q0, q1⟩; have ib := (q0.out.cell b).trans RB.out; obtain ⟨i0, i1, i2, i3, i4, i5, i6, i7⟩ := accCells q1.out; clear q0 q1; have hib : (b : Int) < 16 := (by omega); have hia : (a : Int) < 16 := (by omega); go_simp; try with_reducible rfl
 refine tke 9 (v := ?v9_65) ?hy9_65 (by assumption) ?rest9_65
 case hy9_65 => rintro wq ⟨q0, q1⟩; have ib := (q0.out.cell b).trans RB.out; obtain ⟨i0, i1, i2, i3, i4, i5, i6, i7⟩ := accCells q1.out; clear q0 q1; have hib : (b : Int) < 16 := (by omega); have hia : (a : Int) < 16 := (by omega); go_simp; try with_reducible rfl
 refine wpAnyH_ready (rs := [10]) (by kernel_rfl) (by simp) ?_
 refine AllReadyH.cons (o := _) rfl (fun K hK => ?_) AllReadyH.nil
 try simp only [lA, lB, lC]
 go_simp
 have M0 := hid (J0.out.old (.cells #[.int .i64 0, .int .u32 0, .int .u32 0] 96))
 have M1 := hid (J1.out.old (.cells #[.int .i64 0, .int .u32 0, .int .u32 0] 96))
 have M2 := hid (J2.out.old (.cells #[.int .i64 0, .int .u32 0, .int .u32 0] 96))
 have MN := hid (Blk.new wd #[.int .i64 0, .int .u32 0, .int .u32 0] 96)
 have MB := hid (JB.out.alloc JB.out.size (.cells #[.int .i64 0, .int .u32 0, .int .u32 0] 96))
 refine hK.out _ _ ⟨M0, M1⟩ (fun _ => ?_)
 try simp only [lA, lB, lC]
 obtain ⟨g5, hg⟩ : ∃ g, wd.heap.size = g := ⟨_, rfl⟩
 rw [hg] at MN JS ⊢
 clear hg
 generalize wd.alloc (.cells #[.int .i64 0, .int .u32 0, .int .u32 0] 96) = wy at M0 M1 M2 MN MB ⊢
 clear J0 J1 J2 JB
 refine wpAnyH_ready (rs := [11]) (by kernel_rfl) (by simp) ?_
 refine AllReadyH.cons (o := _) rfl (fun K hK => ?_) AllReadyH.nil
 try simp only [lA, lB, lC]
 have hst := store_acc (cs := #[.int .i64 1, .int .u32 ((rgV cs b + n) % 4294967296), .int .u32 0]) MN.out rfl rfl (acc_one _ _ _)
 have hst2 := store_acc (cs := #[.int .i64 1, .int .u32 ((rgV cs b + n % 4294967296) % 4294967296), .int .u32 0]) MN.out rfl rfl (acc_one _ _ _)
 rw [Int.add_emod_emod] at hst2
 have hwr : IntKind.u32.wrap (rgV cs b + IntKind.u32.wrap n) = (rgV cs b + n) % 4294967296 := by show (rgV cs b + n % 4294967296) % 4294967296 = _; omega
 rw [hwr]
 go_simp
 have P0 := hid (M0.out.farRow (k := g5) (by have := JS.out; omega) #[.int .i64 1, .int .u32 ((rgV cs b + n) % 4294967296), .int .u32 0])
 have P1 := hid (M1.out.farRow (k := g5) (by have := JS.out; omega) #[.int .i64 1, .int .u32 ((rgV cs b + n) % 4294967296), .int .u32 0])
 have P2 := hid (M2.out.farRow (k := g5) (by have := JS.out; omega) #[.int .i64 1, .int .u32 ((rgV cs b + n) % 4294967296), .int .u32 0])
 have PN := hid (MN.out.setRow #[.int .i64 1, .int .u32 ((rgV cs b + n) % 4294967296), .int .u32 0])
 have PB := hid (belRow MB.out (g := g5) (by have := JS.out; omega) #[.int .i64 1, .int .u32 ((rgV cs b + n) % 4294967296), .int .u32 0])
 refine hK.out _ _ ⟨P0, P1⟩ (fun _ => ?_)
 try simp only [lA, lB, lC]
 clear hst hst2
 generalize wy.setRow g5 #[.int .i64 1, .int .u32 ((rgV cs b + n) % 4294967296), .int .u32 0] = W at P0 P1 P2 PN PB ⊢
 clear M0 M1 M2 MN MB
 refine wpAnyH_done (by kernel_rfl) ?_ _
 clear hHeld
 obtain ⟨i0, i1, i2, i3, i4, i5, i6, i7⟩ := accCells P1.out
 have xa := (P0.out.cell a).trans RA.out
 have y0 := PN.out.cell 0
 have y2 := PN.out.cell 2
 simp only [lD, lE, lF] at y0 y2
 have yf0 := PN.out.frozen 0
 have yf2 := PN.out.frozen 2
 have hia : (a : Int) < 16 := by omega
 have hg1 : ¬ w.heap.size = g5 := by have := JS.out; omega
 have hg2 : ¬ g5 = w.heap.size := by have := JS.out; omega
 have hg3 : ¬ w.heap.size + 1 = g5 := by have := JS.out; omega
 have hg4 : ¬ g5 = w.heap.size + 1 := by have := JS.out; omega
 have hl := load_acc PN.out rfl
 have hst := store_acc (cs := #[.int .i64 1, .int .u32 ((rgV cs b + n) % 4294967296), .int .u32 0]) P2.out rfl rfl (acc_one _ _ _)
 have hres := loadVar_acc (P2.out.setRow #[.int .i64 1, .int .u32 ((rgV cs b + n) % 4294967296), .int .u32 0]) rfl
 go_wp2_with fail
 refine bodyPost_ret (v := .agg #[.int .i64 1, .int .u32 ((rgV cs b + n) % 4294967296), .int .u32 0]) ?_ rfl ⟨rfl, belRow PB.out (by omega) _⟩
 simp [results, Tryz.results67, asAddr, hres]
set_option maxRecDepth 100000 in
theorem racc_ft (cs : Array Value) (hc : CpuOk cs) (a b : Nat) (ha : a ≤ 15) (hb : b ≤ 15) (op c n : Int) (hr : rightB 2 false true a b op c n = true) (w : World) (hT : Tab w) :
 Calls Tryz.prog 67 #[.agg cs, .agg #[.int .i64 2, .bool false, .bool true, .int .i64 a, .int .i64 b, .int .i64 op, .int .i64 c, .int .i64 n]] w fun e w' => e = .returned (.agg #[.int .i64 2, .int .u32 ((rgV cs b + n) % 4294967296), .int .u32 0]) ∧ Below w.heap.size w w' := by
 have HR := hid hr
 clear hr
 have HC := hid hc
 have HT := tabHid hT
 clear hc hT
 go_enter Tryz.func67, Tryz.ntmps67
 go_upto_region 1 with fail
 obtain ⟨k0, k1, k2, ks, kb⟩ := three_mk w cs #[.int .i64 2, .bool false, .bool true, .int .i64 a, .int .i64 b, .int .i64 op, .int .i64 c, .int .i64 n] #[.int .i64 0, .int .u32 0, .int .u32 0] 50 92 96
 have K0 := hid k0
 have K1 := hid k1
 have K2 := hid k2
 have KS := hid ks
 have KB := hid kb
 clear k0 k1 k2 ks kb
 generalize ((w.alloc (.cells cs 50)).alloc (.cells #[.int .i64 2, .bool false, .bool true, .int .i64 a, .int .i64 b, .int .i64 op, .int .i64 c, .int .i64 n] 92)).alloc (.cells #[.int .i64 0, .int .u32 0, .int .u32 0] 96) = W0 at K0 K1 K2 KS KB ⊢
 obtain ⟨i0, i1, i2, i3, i4, i5, i6, i7⟩ := accCells K1.out
 go_upto_region 4 with (go_at_call 86; refine (rright_yes HR.out _).mono ?_; rintro e w1 ⟨rfl, hb1⟩; have A0 := hid (K0.out.step hb1); have A1 := hid (K1.out.step hb1); have A2 := hid (K2.out.step hb1); have AS := hid (Nat.le_trans KS.out hb1.size); have AB := hid (KB.out.trans (hb1.mono KB.out.size)); clear hb1; obtain ⟨j0, j1, j2, j3, j4, j5, j6, j7⟩ := accCells A1.out)
 clear i0 i1 i2 i3 i4 i5 i6 i7 j0 j1 j2 j3 j4 j5 j6 j7 K0 K1 K2 KS KB
 obtain ⟨rb, rb0, rb1⟩ := HC.out.rg (k := b) (by omega)
 have RB := hid rb
 obtain ⟨ra, ra0, ra1⟩ := HC.out.rg (k := a) (by omega)
 have RA := hid ra
 clear rb ra
 have J0 : Hid (Blk w1.drew w.heap.size cs 50) := A0.out
 have J1 : Hid (Blk w1.drew (w.heap.size + 1) #[.int .i64 2, .bool false, .bool true, .int .i64 a, .int .i64 b, .int .i64 op, .int .i64 c, .int .i64 n] 92) := A1.out
 have J2 : Hid (Blk w1.drew (w.heap.size + 1 + 1) #[.int .i64 0, .int .u32 0, .int .u32 0] 96) := A2.out
 have JB : Hid (Below w.heap.size w w1.drew) := belN AB.out 1
 have JS : Hid (w.heap.size + 3 ≤ w1.drew.heap.size) := AS.out
 clear A0 A1 A2 AS AB
 refine wp_region_held_drew (S := (fun w' => Hid (Blk w' w.heap.size cs 50) ∧ Hid (Blk w' (w.heap.size + 1) #[.int .i64 2, .bool false, .bool true, .int .i64 a, .int .i64 b, .int .i64 op, .int .i64 c, .int .i64 n] 92))) (by kernel_rfl) ⟨J0, J1⟩ (fun hHeld => ?_)
 clear hHeld
 generalize w1.drew = wd at J0 J1 J2 JB JS ⊢
 have hHeld : ((fun w' => Hid (Blk w' w.heap.size cs 50) ∧ Hid (Blk w' (w.heap.size + 1) #[.int .i64 2, .bool false, .bool true, .int .i64 a, .int .i64 b, .int .i64 op, .int .i64 c, .int .i64 n] 92)) wd) := ⟨J0, J1⟩
 refine tke 0 (v := ?v0_66) ?hy0_66 (by assumption) ?rest0_66
 case hy0_66 => rintro wq ⟨q0, q1⟩; have ib := (q0.out.cell b).trans RB.out; obtain ⟨i0, i1, i2, i3, i4, i5, i6, i7⟩ := accCells q1.out; clear q0 q1; have hib : (b : Int) < 16 := (by omega); have hia : (a : Int) < 16 := (by omega); go_simp; try with_reducible rfl
 refine tke 1 (v := ?v1_67) ?hy1_67 (by assumption) ?rest1_67
 case hy1_67 => rintro wq ⟨q0, q1⟩; have ib := (q0.out.cell b).trans RB.out; obtain ⟨i0, i1, i2, i3, i4, i5, i6, i7⟩ := accCells q1.out; clear q0 q1; have hib : (b : Int) < 16 := (by omega); have hia : (a : Int) < 16 := (by omega); go_simp; try with_reducible rfl
 refine tke 2 (v := ?v2_68) ?hy2_68 (by assumption) ?rest2_68
 case hy2_68 => rintro wq ⟨q0, q1⟩; have ib := (q0.out.cell b).trans RB.out; obtain ⟨i0, i1, i2, i3, i4, i5, i6, i7⟩ := accCells q1.out; clear q0 q1; have hib : (b : Int) < 16 := (by omega); have hia : (a : Int) < 16 := (by omega); go_simp; try with_reducible rfl
 refine tke 3 (v := ?v3_69) ?hy3_69 (by assumption) ?rest3_69
 case hy3_69 => rintro wq ⟨q0, q1⟩; have ib := (q0.out.cell b).trans RB.out; obtain ⟨i0, i1, i2, i3, i4, i5, i6, i7⟩ := accCells q1.out; clear q0 q1; have hib : (b : Int) < 16 := (by omega); have hia : (a : Int) < 16 := (by omega); go_simp; try with_reducible rfl
 refine tke 4 (v := ?v4_70) ?hy4_70 (by assumption) ?rest4_70
 case hy4_70 => rintro wq ⟨q0, q1⟩; have ib := (q0.out.cell b).trans RB.out; obtain ⟨i0, i1, i2, i3, i4, i5, i6, i7⟩ := accCells q1.out; clear q0 q1; have hib : (b : Int) < 16 := (by omega); have hia : (a : Int) < 16 := (by omega); go_simp; try with_reducible rfl
 refine tke 5 (v := ?v5_71) ?hy5_71 (by assumption) ?rest5_71
 case hy5_71 => rintro wq ⟨q0, q1⟩; have ib := (q0.out.cell b).trans RB.out; obtain ⟨i0, i1, i2, i3, i4, i5, i6, i7⟩ := accCells q1.out; clear q0 q1; have hib : (b : Int) < 16 := (by omega); have hia : (a : Int) < 16 := (by omega); go_simp; try with_reducible rfl
 refine tke 6 (v := ?v6_72) ?hy6_72 (by assumption) ?rest6_72
 case hy6_72 => rintro wq ⟨q0, q1⟩; have ib := (q0.out.cell b).trans RB.out; obtain ⟨i0, i1, i2, i3, i4, i5, i6, i7⟩ := accCells q1.out; clear q0 q1; have hib : (b : Int) < 16 := (by omega); have hia : (a : Int) < 16 := (by omega); go_simp; try with_reducible rfl
 refine tke 7 (v := ?v7_73) ?hy7_73 (by assumption) ?rest7_73
 case hy7_73 => rintro wq ⟨q0, q1⟩; have ib := (q0.out.cell b).trans RB.out; obtain ⟨i0, i1, i2, i3, i4, i5, i6, i7⟩ := accCells q1.out; clear q0 q1; have hib : (b : Int) < 16 := (by omega); have hia : (a : Int) < 16 := (by omega); go_simp; try with_reducible rfl
 refine tke 8 (v := ?v8_74) ?hy8_74 (by assumption) ?rest8_74
 case hy8_74 => rintro wq ⟨q0, q1⟩; have ib := (q0.out.cell b).trans RB.out; obtain ⟨i0, i1, i2, i3, i4, i5, i6, i7⟩ := accCells q1.out; clear q0 q1; have hib : (b : Int) < 16 := (by omega); have hia : (a : Int) < 16 := (by omega); go_simp; try with_reducible rfl
 refine tke 9 (v := ?v9_75) ?hy9_75 (by assumption) ?rest9_75
 case hy9_75 => rintro wq ⟨q0, q1⟩; have ib := (q0.out.cell b).trans RB.out; obtain ⟨i0, i1, i2, i3, i4, i5, i6, i7⟩ := accCells q1.out; clear q0 q1; have hib : (b : Int) < 16 := (by omega); have hia : (a : Int) < 16 := (by omega); go_simp; try with_reducible rfl
 refine wpAnyH_ready (rs := [10]) (by kernel_rfl) (by simp) ?_
 refine AllReadyH.cons (o := _) rfl (fun K hK => ?_) AllReadyH.nil
 try simp only [lA, lB, lC]
 go_simp
 have M0 := hid (J0.out.old (.cells #[.int .i64 0, .int .u32 0, .int .u32 0] 96))
 have M1 := hid (J1.out.old (.cells #[.int .i64 0, .int .u32 0, .int .u32 0] 96))
 have M2 := hid (J2.out.old (.cells #[.int .i64 0, .int .u32 0, .int .u32 0] 96))
 have MN := hid (Blk.new wd #[.int .i64 0, .int .u32 0, .int .u32 0] 96)
 have MB := hid (JB.out.alloc JB.out.size (.cells #[.int .i64 0, .int .u32 0, .int .u32 0] 96))
 refine hK.out _ _ ⟨M0, M1⟩ (fun _ => ?_)
 try simp only [lA, lB, lC]
 obtain ⟨g5, hg⟩ : ∃ g, wd.heap.size = g := ⟨_, rfl⟩
 rw [hg] at MN JS ⊢
 clear hg
 generalize wd.alloc (.cells #[.int .i64 0, .int .u32 0, .int .u32 0] 96) = wy at M0 M1 M2 MN MB ⊢
 clear J0 J1 J2 JB
 refine wpAnyH_ready (rs := [11]) (by kernel_rfl) (by simp) ?_
 refine AllReadyH.cons (o := _) rfl (fun K hK => ?_) AllReadyH.nil
 try simp only [lA, lB, lC]
 have hst := store_acc (cs := #[.int .i64 1, .int .u32 ((rgV cs b + n) % 4294967296), .int .u32 0]) MN.out rfl rfl (acc_one _ _ _)
 have hst2 := store_acc (cs := #[.int .i64 1, .int .u32 ((rgV cs b + n % 4294967296) % 4294967296), .int .u32 0]) MN.out rfl rfl (acc_one _ _ _)
 rw [Int.add_emod_emod] at hst2
 have hwr : IntKind.u32.wrap (rgV cs b + IntKind.u32.wrap n) = (rgV cs b + n) % 4294967296 := by show (rgV cs b + n % 4294967296) % 4294967296 = _; omega
 rw [hwr]
 go_simp
 have P0 := hid (M0.out.farRow (k := g5) (by have := JS.out; omega) #[.int .i64 1, .int .u32 ((rgV cs b + n) % 4294967296), .int .u32 0])
 have P1 := hid (M1.out.farRow (k := g5) (by have := JS.out; omega) #[.int .i64 1, .int .u32 ((rgV cs b + n) % 4294967296), .int .u32 0])
 have P2 := hid (M2.out.farRow (k := g5) (by have := JS.out; omega) #[.int .i64 1, .int .u32 ((rgV cs b + n) % 4294967296), .int .u32 0])
 have PN := hid (MN.out.setRow #[.int .i64 1, .int .u32 ((rgV cs b + n) % 4294967296), .int .u32 0])
 have PB := hid (belRow MB.out (g := g5) (by have := JS.out; omega) #[.int .i64 1, .int .u32 ((rgV cs b + n) % 4294967296), .int .u32 0])
 refine hK.out _ _ ⟨P0, P1⟩ (fun _ => ?_)
 try simp only [lA, lB, lC]
 clear hst hst2
 generalize wy.setRow g5 #[.int .i64 1, .int .u32 ((rgV cs b + n) % 4294967296), .int .u32 0] = W at P0 P1 P2 PN PB ⊢
 clear M0 M1 M2 MN MB
 refine wpAnyH_done (by kernel_rfl) ?_ _
 clear hHeld
 obtain ⟨i0, i1, i2, i3, i4, i5, i6, i7⟩ := accCells P1.out
 have xa := (P0.out.cell a).trans RA.out
 have y0 := PN.out.cell 0
 have y2 := PN.out.cell 2
 simp only [lD, lE, lF] at y0 y2
 have yf0 := PN.out.frozen 0
 have yf2 := PN.out.frozen 2
 have hia : (a : Int) < 16 := by omega
 have hg1 : ¬ w.heap.size = g5 := by have := JS.out; omega
 have hg2 : ¬ g5 = w.heap.size := by have := JS.out; omega
 have hg3 : ¬ w.heap.size + 1 = g5 := by have := JS.out; omega
 have hg4 : ¬ g5 = w.heap.size + 1 := by have := JS.out; omega
 have hl := load_acc (PN.out.set 0 (.int .i64 2)) rfl
 simp only [lG, List.set_cons_zero, List.set_cons_succ] at hl
 have hst := store_acc (cs := #[.int .i64 2, .int .u32 ((rgV cs b + n) % 4294967296), .int .u32 0]) (P2.out.far (p := ⟨g5, 0, none⟩) (by have := JS.out; simp; omega) (.int .i64 2)) rfl rfl (acc_one _ _ _)
 have hres := loadVar_acc ((P2.out.far (p := ⟨g5, 0, none⟩) (by have := JS.out; simp; omega) (.int .i64 2)).setRow #[.int .i64 2, .int .u32 ((rgV cs b + n) % 4294967296), .int .u32 0]) rfl
 go_wp2_with fail
 refine bodyPost_ret (v := .agg #[.int .i64 2, .int .u32 ((rgV cs b + n) % 4294967296), .int .u32 0]) ?_ rfl ⟨rfl, belRow (PB.out.setCell (p := ⟨g5, 0, none⟩) (by have := JS.out; simp; omega) (.int .i64 2)) (by omega) _⟩
 simp [results, Tryz.results67, asAddr, hres]
set_option maxRecDepth 100000 in
theorem racc_tf (cs : Array Value) (hc : CpuOk cs) (a b : Nat) (ha : a ≤ 15) (hb : b ≤ 15) (op c n : Int) (hr : rightB 2 true false a b op c n = true) (w : World) (hT : Tab w) :
 Calls Tryz.prog 67 #[.agg cs, .agg #[.int .i64 2, .bool true, .bool false, .int .i64 a, .int .i64 b, .int .i64 op, .int .i64 c, .int .i64 n]] w fun e w' => e = .returned (.agg #[.int .i64 3, .int .u32 ((rgV cs b + n) % 4294967296), .int .u32 (rgV cs a)]) ∧ Below w.heap.size w w' := by
 have HR := hid hr
 clear hr
 have HC := hid hc
 have HT := tabHid hT
 clear hc hT
 go_enter Tryz.func67, Tryz.ntmps67
 go_upto_region 1 with fail
 obtain ⟨k0, k1, k2, ks, kb⟩ := three_mk w cs #[.int .i64 2, .bool true, .bool false, .int .i64 a, .int .i64 b, .int .i64 op, .int .i64 c, .int .i64 n] #[.int .i64 0, .int .u32 0, .int .u32 0] 50 92 96
 have K0 := hid k0
 have K1 := hid k1
 have K2 := hid k2
 have KS := hid ks
 have KB := hid kb
 clear k0 k1 k2 ks kb
 generalize ((w.alloc (.cells cs 50)).alloc (.cells #[.int .i64 2, .bool true, .bool false, .int .i64 a, .int .i64 b, .int .i64 op, .int .i64 c, .int .i64 n] 92)).alloc (.cells #[.int .i64 0, .int .u32 0, .int .u32 0] 96) = W0 at K0 K1 K2 KS KB ⊢
 obtain ⟨i0, i1, i2, i3, i4, i5, i6, i7⟩ := accCells K1.out
 go_upto_region 4 with (go_at_call 86; refine (rright_yes HR.out _).mono ?_; rintro e w1 ⟨rfl, hb1⟩; have A0 := hid (K0.out.step hb1); have A1 := hid (K1.out.step hb1); have A2 := hid (K2.out.step hb1); have AS := hid (Nat.le_trans KS.out hb1.size); have AB := hid (KB.out.trans (hb1.mono KB.out.size)); clear hb1; obtain ⟨j0, j1, j2, j3, j4, j5, j6, j7⟩ := accCells A1.out)
 clear i0 i1 i2 i3 i4 i5 i6 i7 j0 j1 j2 j3 j4 j5 j6 j7 K0 K1 K2 KS KB
 obtain ⟨rb, rb0, rb1⟩ := HC.out.rg (k := b) (by omega)
 have RB := hid rb
 obtain ⟨ra, ra0, ra1⟩ := HC.out.rg (k := a) (by omega)
 have RA := hid ra
 clear rb ra
 have J0 : Hid (Blk w1.drew w.heap.size cs 50) := A0.out
 have J1 : Hid (Blk w1.drew (w.heap.size + 1) #[.int .i64 2, .bool true, .bool false, .int .i64 a, .int .i64 b, .int .i64 op, .int .i64 c, .int .i64 n] 92) := A1.out
 have J2 : Hid (Blk w1.drew (w.heap.size + 1 + 1) #[.int .i64 0, .int .u32 0, .int .u32 0] 96) := A2.out
 have JB : Hid (Below w.heap.size w w1.drew) := belN AB.out 1
 have JS : Hid (w.heap.size + 3 ≤ w1.drew.heap.size) := AS.out
 clear A0 A1 A2 AS AB
 refine wp_region_held_drew (S := (fun w' => Hid (Blk w' w.heap.size cs 50) ∧ Hid (Blk w' (w.heap.size + 1) #[.int .i64 2, .bool true, .bool false, .int .i64 a, .int .i64 b, .int .i64 op, .int .i64 c, .int .i64 n] 92))) (by kernel_rfl) ⟨J0, J1⟩ (fun hHeld => ?_)
 clear hHeld
 generalize w1.drew = wd at J0 J1 J2 JB JS ⊢
 have hHeld : ((fun w' => Hid (Blk w' w.heap.size cs 50) ∧ Hid (Blk w' (w.heap.size + 1) #[.int .i64 2, .bool true, .bool false, .int .i64 a, .int .i64 b, .int .i64 op, .int .i64 c, .int .i64 n] 92)) wd) := ⟨J0, J1⟩
 refine tke 0 (v := ?v0_76) ?hy0_76 (by assumption) ?rest0_76
 case hy0_76 => rintro wq ⟨q0, q1⟩; have ib := (q0.out.cell b).trans RB.out; obtain ⟨i0, i1, i2, i3, i4, i5, i6, i7⟩ := accCells q1.out; clear q0 q1; have hib : (b : Int) < 16 := (by omega); have hia : (a : Int) < 16 := (by omega); go_simp; try with_reducible rfl
 refine tke 1 (v := ?v1_77) ?hy1_77 (by assumption) ?rest1_77
 case hy1_77 => rintro wq ⟨q0, q1⟩; have ib := (q0.out.cell b).trans RB.out; obtain ⟨i0, i1, i2, i3, i4, i5, i6, i7⟩ := accCells q1.out; clear q0 q1; have hib : (b : Int) < 16 := (by omega); have hia : (a : Int) < 16 := (by omega); go_simp; try with_reducible rfl
 refine tke 2 (v := ?v2_78) ?hy2_78 (by assumption) ?rest2_78
 case hy2_78 => rintro wq ⟨q0, q1⟩; have ib := (q0.out.cell b).trans RB.out; obtain ⟨i0, i1, i2, i3, i4, i5, i6, i7⟩ := accCells q1.out; clear q0 q1; have hib : (b : Int) < 16 := (by omega); have hia : (a : Int) < 16 := (by omega); go_simp; try with_reducible rfl
 refine tke 3 (v := ?v3_79) ?hy3_79 (by assumption) ?rest3_79
 case hy3_79 => rintro wq ⟨q0, q1⟩; have ib := (q0.out.cell b).trans RB.out; obtain ⟨i0, i1, i2, i3, i4, i5, i6, i7⟩ := accCells q1.out; clear q0 q1; have hib : (b : Int) < 16 := (by omega); have hia : (a : Int) < 16 := (by omega); go_simp; try with_reducible rfl
 refine tke 4 (v := ?v4_80) ?hy4_80 (by assumption) ?rest4_80
 case hy4_80 => rintro wq ⟨q0, q1⟩; have ib := (q0.out.cell b).trans RB.out; obtain ⟨i0, i1, i2, i3, i4, i5, i6, i7⟩ := accCells q1.out; clear q0 q1; have hib : (b : Int) < 16 := (by omega); have hia : (a : Int) < 16 := (by omega); go_simp; try with_reducible rfl
 refine tke 5 (v := ?v5_81) ?hy5_81 (by assumption) ?rest5_81
 case hy5_81 => rintro wq ⟨q0, q1⟩; have ib := (q0.out.cell b).trans RB.out; obtain ⟨i0, i1, i2, i3, i4, i5, i6, i7⟩ := accCells q1.out; clear q0 q1; have hib : (b : Int) < 16 := (by omega); have hia : (a : Int) < 16 := (by omega); go_simp; try with_reducible rfl
 refine tke 6 (v := ?v6_82) ?hy6_82 (by assumption) ?rest6_82
 case hy6_82 => rintro wq ⟨q0, q1⟩; have ib := (q0.out.cell b).trans RB.out; obtain ⟨i0, i1, i2, i3, i4, i5, i6, i7⟩ := accCells q1.out; clear q0 q1; have hib : (b : Int) < 16 := (by omega); have hia : (a : Int) < 16 := (by omega); go_simp; try with_reducible rfl
 refine tke 7 (v := ?v7_83) ?hy7_83 (by assumption) ?rest7_83
 case hy7_83 => rintro wq ⟨q0, q1⟩; have ib := (q0.out.cell b).trans RB.out; obtain ⟨i0, i1, i2, i3, i4, i5, i6, i7⟩ := accCells q1.out; clear q0 q1; have hib : (b : Int) < 16 := (by omega); have hia : (a : Int) < 16 := (by omega); go_simp; try with_reducible rfl
 refine tke 8 (v := ?v8_84) ?hy8_84 (by assumption) ?rest8_84
 case hy8_84 => rintro wq ⟨q0, q1⟩; have ib := (q0.out.cell b).trans RB.out; obtain ⟨i0, i1, i2, i3, i4, i5, i6, i7⟩ := accCells q1.out; clear q0 q1; have hib : (b : Int) < 16 := (by omega); have hia : (a : Int) < 16 := (by omega); go_simp; try with_reducible rfl
 refine tke 9 (v := ?v9_85) ?hy9_85 (by assumption) ?rest9_85
 case hy9_85 => rintro wq ⟨q0, q1⟩; have ib := (q0.out.cell b).trans RB.out; obtain ⟨i0, i1, i2, i3, i4, i5, i6, i7⟩ := accCells q1.out; clear q0 q1; have hib : (b : Int) < 16 := (by omega); have hia : (a : Int) < 16 := (by omega); go_simp; try with_reducible rfl
 refine wpAnyH_ready (rs := [10]) (by kernel_rfl) (by simp) ?_
 refine AllReadyH.cons (o := _) rfl (fun K hK => ?_) AllReadyH.nil
 try simp only [lA, lB, lC]
 go_simp
 have M0 := hid (J0.out.old (.cells #[.int .i64 0, .int .u32 0, .int .u32 0] 96))
 have M1 := hid (J1.out.old (.cells #[.int .i64 0, .int .u32 0, .int .u32 0] 96))
 have M2 := hid (J2.out.old (.cells #[.int .i64 0, .int .u32 0, .int .u32 0] 96))
 have MN := hid (Blk.new wd #[.int .i64 0, .int .u32 0, .int .u32 0] 96)
 have MB := hid (JB.out.alloc JB.out.size (.cells #[.int .i64 0, .int .u32 0, .int .u32 0] 96))
 refine hK.out _ _ ⟨M0, M1⟩ (fun _ => ?_)
 try simp only [lA, lB, lC]
 obtain ⟨g5, hg⟩ : ∃ g, wd.heap.size = g := ⟨_, rfl⟩
 rw [hg] at MN JS ⊢
 clear hg
 generalize wd.alloc (.cells #[.int .i64 0, .int .u32 0, .int .u32 0] 96) = wy at M0 M1 M2 MN MB ⊢
 clear J0 J1 J2 JB
 refine wpAnyH_ready (rs := [11]) (by kernel_rfl) (by simp) ?_
 refine AllReadyH.cons (o := _) rfl (fun K hK => ?_) AllReadyH.nil
 try simp only [lA, lB, lC]
 have hst := store_acc (cs := #[.int .i64 1, .int .u32 ((rgV cs b + n) % 4294967296), .int .u32 0]) MN.out rfl rfl (acc_one _ _ _)
 have hst2 := store_acc (cs := #[.int .i64 1, .int .u32 ((rgV cs b + n % 4294967296) % 4294967296), .int .u32 0]) MN.out rfl rfl (acc_one _ _ _)
 rw [Int.add_emod_emod] at hst2
 have hwr : IntKind.u32.wrap (rgV cs b + IntKind.u32.wrap n) = (rgV cs b + n) % 4294967296 := by show (rgV cs b + n % 4294967296) % 4294967296 = _; omega
 rw [hwr]
 go_simp
 have P0 := hid (M0.out.farRow (k := g5) (by have := JS.out; omega) #[.int .i64 1, .int .u32 ((rgV cs b + n) % 4294967296), .int .u32 0])
 have P1 := hid (M1.out.farRow (k := g5) (by have := JS.out; omega) #[.int .i64 1, .int .u32 ((rgV cs b + n) % 4294967296), .int .u32 0])
 have P2 := hid (M2.out.farRow (k := g5) (by have := JS.out; omega) #[.int .i64 1, .int .u32 ((rgV cs b + n) % 4294967296), .int .u32 0])
 have PN := hid (MN.out.setRow #[.int .i64 1, .int .u32 ((rgV cs b + n) % 4294967296), .int .u32 0])
 have PB := hid (belRow MB.out (g := g5) (by have := JS.out; omega) #[.int .i64 1, .int .u32 ((rgV cs b + n) % 4294967296), .int .u32 0])
 refine hK.out _ _ ⟨P0, P1⟩ (fun _ => ?_)
 try simp only [lA, lB, lC]
 clear hst hst2
 generalize wy.setRow g5 #[.int .i64 1, .int .u32 ((rgV cs b + n) % 4294967296), .int .u32 0] = W at P0 P1 P2 PN PB ⊢
 clear M0 M1 M2 MN MB
 refine wpAnyH_done (by kernel_rfl) ?_ _
 clear hHeld
 obtain ⟨i0, i1, i2, i3, i4, i5, i6, i7⟩ := accCells P1.out
 have xa := (P0.out.cell a).trans RA.out
 have y0 := PN.out.cell 0
 have y2 := PN.out.cell 2
 simp only [lD, lE, lF] at y0 y2
 have yf0 := PN.out.frozen 0
 have yf2 := PN.out.frozen 2
 have hia : (a : Int) < 16 := by omega
 have hg1 : ¬ w.heap.size = g5 := by have := JS.out; omega
 have hg2 : ¬ g5 = w.heap.size := by have := JS.out; omega
 have hg3 : ¬ w.heap.size + 1 = g5 := by have := JS.out; omega
 have hg4 : ¬ g5 = w.heap.size + 1 := by have := JS.out; omega
 have hl := load_acc ((PN.out.set 0 (.int .i64 3)).set 2 (.int .u32 (rgV cs a))) rfl
 simp only [lG, List.set_cons_zero, List.set_cons_succ] at hl
 have hst := store_acc (cs := #[.int .i64 3, .int .u32 ((rgV cs b + n) % 4294967296), .int .u32 (rgV cs a)]) ((P2.out.far (p := ⟨g5, 0, none⟩) (by have := JS.out; simp; omega) (.int .i64 3)).far (p := ⟨g5, 2, none⟩) (by have := JS.out; simp; omega) (.int .u32 (rgV cs a))) rfl rfl (acc_one _ _ _)
 have hres := loadVar_acc (((P2.out.far (p := ⟨g5, 0, none⟩) (by have := JS.out; simp; omega) (.int .i64 3)).far (p := ⟨g5, 2, none⟩) (by have := JS.out; simp; omega) (.int .u32 (rgV cs a))).setRow #[.int .i64 3, .int .u32 ((rgV cs b + n) % 4294967296), .int .u32 (rgV cs a)]) rfl
 go_wp2_with fail
 refine bodyPost_ret (v := .agg #[.int .i64 3, .int .u32 ((rgV cs b + n) % 4294967296), .int .u32 (rgV cs a)]) ?_ rfl ⟨rfl, belRow ((PB.out.setCell (p := ⟨g5, 0, none⟩) (by have := JS.out; simp; omega) (.int .i64 3)).setCell (p := ⟨g5, 2, none⟩) (by have := JS.out; simp; omega) (.int .u32 (rgV cs a))) (by omega) _⟩
 simp [results, Tryz.results67, asAddr, hres]
set_option maxRecDepth 100000 in
theorem racc_tt (cs : Array Value) (hc : CpuOk cs) (a b : Nat) (ha : a ≤ 15) (hb : b ≤ 15) (op c n : Int) (hr : rightB 2 true true a b op c n = true) (w : World) (hT : Tab w) :
 Calls Tryz.prog 67 #[.agg cs, .agg #[.int .i64 2, .bool true, .bool true, .int .i64 a, .int .i64 b, .int .i64 op, .int .i64 c, .int .i64 n]] w fun e w' => e = .returned (.agg #[.int .i64 4, .int .u32 ((rgV cs b + n) % 4294967296), .int .u32 (rgV cs a % 256)]) ∧ Below w.heap.size w w' := by
 have HR := hid hr
 clear hr
 have HC := hid hc
 have HT := tabHid hT
 clear hc hT
 go_enter Tryz.func67, Tryz.ntmps67
 go_upto_region 1 with fail
 obtain ⟨k0, k1, k2, ks, kb⟩ := three_mk w cs #[.int .i64 2, .bool true, .bool true, .int .i64 a, .int .i64 b, .int .i64 op, .int .i64 c, .int .i64 n] #[.int .i64 0, .int .u32 0, .int .u32 0] 50 92 96
 have K0 := hid k0
 have K1 := hid k1
 have K2 := hid k2
 have KS := hid ks
 have KB := hid kb
 clear k0 k1 k2 ks kb
 generalize ((w.alloc (.cells cs 50)).alloc (.cells #[.int .i64 2, .bool true, .bool true, .int .i64 a, .int .i64 b, .int .i64 op, .int .i64 c, .int .i64 n] 92)).alloc (.cells #[.int .i64 0, .int .u32 0, .int .u32 0] 96) = W0 at K0 K1 K2 KS KB ⊢
 obtain ⟨i0, i1, i2, i3, i4, i5, i6, i7⟩ := accCells K1.out
 go_upto_region 4 with (go_at_call 86; refine (rright_yes HR.out _).mono ?_; rintro e w1 ⟨rfl, hb1⟩; have A0 := hid (K0.out.step hb1); have A1 := hid (K1.out.step hb1); have A2 := hid (K2.out.step hb1); have AS := hid (Nat.le_trans KS.out hb1.size); have AB := hid (KB.out.trans (hb1.mono KB.out.size)); clear hb1; obtain ⟨j0, j1, j2, j3, j4, j5, j6, j7⟩ := accCells A1.out)
 clear i0 i1 i2 i3 i4 i5 i6 i7 j0 j1 j2 j3 j4 j5 j6 j7 K0 K1 K2 KS KB
 obtain ⟨rb, rb0, rb1⟩ := HC.out.rg (k := b) (by omega)
 have RB := hid rb
 obtain ⟨ra, ra0, ra1⟩ := HC.out.rg (k := a) (by omega)
 have RA := hid ra
 clear rb ra
 have J0 : Hid (Blk w1.drew w.heap.size cs 50) := A0.out
 have J1 : Hid (Blk w1.drew (w.heap.size + 1) #[.int .i64 2, .bool true, .bool true, .int .i64 a, .int .i64 b, .int .i64 op, .int .i64 c, .int .i64 n] 92) := A1.out
 have J2 : Hid (Blk w1.drew (w.heap.size + 1 + 1) #[.int .i64 0, .int .u32 0, .int .u32 0] 96) := A2.out
 have JB : Hid (Below w.heap.size w w1.drew) := belN AB.out 1
 have JS : Hid (w.heap.size + 3 ≤ w1.drew.heap.size) := AS.out
 clear A0 A1 A2 AS AB
 refine wp_region_held_drew (S := (fun w' => Hid (Blk w' w.heap.size cs 50) ∧ Hid (Blk w' (w.heap.size + 1) #[.int .i64 2, .bool true, .bool true, .int .i64 a, .int .i64 b, .int .i64 op, .int .i64 c, .int .i64 n] 92))) (by kernel_rfl) ⟨J0, J1⟩ (fun hHeld => ?_)
 clear hHeld
 generalize w1.drew = wd at J0 J1 J2 JB JS ⊢
 have hHeld : ((fun w' => Hid (Blk w' w.heap.size cs 50) ∧ Hid (Blk w' (w.heap.size + 1) #[.int .i64 2, .bool true, .bool true, .int .i64 a, .int .i64 b, .int .i64 op, .int .i64 c, .int .i64 n] 92)) wd) := ⟨J0, J1⟩
 refine tke 0 (v := ?v0_86) ?hy0_86 (by assumption) ?rest0_86
 case hy0_86 => rintro wq ⟨q0, q1⟩; have ib := (q0.out.cell b).trans RB.out; obtain ⟨i0, i1, i2, i3, i4, i5, i6, i7⟩ := accCells q1.out; clear q0 q1; have hib : (b : Int) < 16 := (by omega); have hia : (a : Int) < 16 := (by omega); go_simp; try with_reducible rfl
 refine tke 1 (v := ?v1_87) ?hy1_87 (by assumption) ?rest1_87
 case hy1_87 => rintro wq ⟨q0, q1⟩; have ib := (q0.out.cell b).trans RB.out; obtain ⟨i0, i1, i2, i3, i4, i5, i6, i7⟩ := accCells q1.out; clear q0 q1; have hib : (b : Int) < 16 := (by omega); have hia : (a : Int) < 16 := (by omega); go_simp; try with_reducible rfl
 refine tke 2 (v := ?v2_88) ?hy2_88 (by assumption) ?rest2_88
 case hy2_88 => rintro wq ⟨q0, q1⟩; have ib := (q0.out.cell b).trans RB.out; obtain ⟨i0, i1, i2, i3, i4, i5, i6, i7⟩ := accCells q1.out; clear q0 q1; have hib : (b : Int) < 16 := (by omega); have hia : (a : Int) < 16 := (by omega); go_simp; try with_reducible rfl
 refine tke 3 (v := ?v3_89) ?hy3_89 (by assumption) ?rest3_89
 case hy3_89 => rintro wq ⟨q0, q1⟩; have ib := (q0.out.cell b).trans RB.out; obtain ⟨i0, i1, i2, i3, i4, i5, i6, i7⟩ := accCells q1.out; clear q0 q1; have hib : (b : Int) < 16 := (by omega); have hia : (a : Int) < 16 := (by omega); go_simp; try with_reducible rfl
 refine tke 4 (v := ?v4_90) ?hy4_90 (by assumption) ?rest4_90
 case hy4_90 => rintro wq ⟨q0, q1⟩; have ib := (q0.out.cell b).trans RB.out; obtain ⟨i0, i1, i2, i3, i4, i5, i6, i7⟩ := accCells q1.out; clear q0 q1; have hib : (b : Int) < 16 := (by omega); have hia : (a : Int) < 16 := (by omega); go_simp; try with_reducible rfl
 refine tke 5 (v := ?v5_91) ?hy5_91 (by assumption) ?rest5_91
 case hy5_91 => rintro wq ⟨q0, q1⟩; have ib := (q0.out.cell b).trans RB.out; obtain ⟨i0, i1, i2, i3, i4, i5, i6, i7⟩ := accCells q1.out; clear q0 q1; have hib : (b : Int) < 16 := (by omega); have hia : (a : Int) < 16 := (by omega); go_simp; try with_reducible rfl
 refine tke 6 (v := ?v6_92) ?hy6_92 (by assumption) ?rest6_92
 case hy6_92 => rintro wq ⟨q0, q1⟩; have ib := (q0.out.cell b).trans RB.out; obtain ⟨i0, i1, i2, i3, i4, i5, i6, i7⟩ := accCells q1.out; clear q0 q1; have hib : (b : Int) < 16 := (by omega); have hia : (a : Int) < 16 := (by omega); go_simp; try with_reducible rfl
 refine tke 7 (v := ?v7_93) ?hy7_93 (by assumption) ?rest7_93
 case hy7_93 => rintro wq ⟨q0, q1⟩; have ib := (q0.out.cell b).trans RB.out; obtain ⟨i0, i1, i2, i3, i4, i5, i6, i7⟩ := accCells q1.out; clear q0 q1; have hib : (b : Int) < 16 := (by omega); have hia : (a : Int) < 16 := (by omega); go_simp; try with_reducible rfl
 refine tke 8 (v := ?v8_94) ?hy8_94 (by assumption) ?rest8_94
 case hy8_94 => rintro wq ⟨q0, q1⟩; have ib := (q0.out.cell b).trans RB.out; obtain ⟨i0, i1, i2, i3, i4, i5, i6, i7⟩ := accCells q1.out; clear q0 q1; have hib : (b : Int) < 16 := (by omega); have hia : (a : Int) < 16 := (by omega); go_simp; try with_reducible rfl
 refine tke 9 (v := ?v9_95) ?hy9_95 (by assumption) ?rest9_95
 case hy9_95 => rintro wq ⟨q0, q1⟩; have ib := (q0.out.cell b).trans RB.out; obtain ⟨i0, i1, i2, i3, i4, i5, i6, i7⟩ := accCells q1.out; clear q0 q1; have hib : (b : Int) < 16 := (by omega); have hia : (a : Int) < 16 := (by omega); go_simp; try with_reducible rfl
 refine wpAnyH_ready (rs := [10]) (by kernel_rfl) (by simp) ?_
 refine AllReadyH.cons (o := _) rfl (fun K hK => ?_) AllReadyH.nil
 try simp only [lA, lB, lC]
 go_simp
 have M0 := hid (J0.out.old (.cells #[.int .i64 0, .int .u32 0, .int .u32 0] 96))
 have M1 := hid (J1.out.old (.cells #[.int .i64 0, .int .u32 0, .int .u32 0] 96))
 have M2 := hid (J2.out.old (.cells #[.int .i64 0, .int .u32 0, .int .u32 0] 96))
 have MN := hid (Blk.new wd #[.int .i64 0, .int .u32 0, .int .u32 0] 96)
 have MB := hid (JB.out.alloc JB.out.size (.cells #[.int .i64 0, .int .u32 0, .int .u32 0] 96))
 refine hK.out _ _ ⟨M0, M1⟩ (fun _ => ?_)
 try simp only [lA, lB, lC]
 obtain ⟨g5, hg⟩ : ∃ g, wd.heap.size = g := ⟨_, rfl⟩
 rw [hg] at MN JS ⊢
 clear hg
 generalize wd.alloc (.cells #[.int .i64 0, .int .u32 0, .int .u32 0] 96) = wy at M0 M1 M2 MN MB ⊢
 clear J0 J1 J2 JB
 refine wpAnyH_ready (rs := [11]) (by kernel_rfl) (by simp) ?_
 refine AllReadyH.cons (o := _) rfl (fun K hK => ?_) AllReadyH.nil
 try simp only [lA, lB, lC]
 have hst := store_acc (cs := #[.int .i64 1, .int .u32 ((rgV cs b + n) % 4294967296), .int .u32 0]) MN.out rfl rfl (acc_one _ _ _)
 have hst2 := store_acc (cs := #[.int .i64 1, .int .u32 ((rgV cs b + n % 4294967296) % 4294967296), .int .u32 0]) MN.out rfl rfl (acc_one _ _ _)
 rw [Int.add_emod_emod] at hst2
 have hwr : IntKind.u32.wrap (rgV cs b + IntKind.u32.wrap n) = (rgV cs b + n) % 4294967296 := by show (rgV cs b + n % 4294967296) % 4294967296 = _; omega
 rw [hwr]
 go_simp
 have P0 := hid (M0.out.farRow (k := g5) (by have := JS.out; omega) #[.int .i64 1, .int .u32 ((rgV cs b + n) % 4294967296), .int .u32 0])
 have P1 := hid (M1.out.farRow (k := g5) (by have := JS.out; omega) #[.int .i64 1, .int .u32 ((rgV cs b + n) % 4294967296), .int .u32 0])
 have P2 := hid (M2.out.farRow (k := g5) (by have := JS.out; omega) #[.int .i64 1, .int .u32 ((rgV cs b + n) % 4294967296), .int .u32 0])
 have PN := hid (MN.out.setRow #[.int .i64 1, .int .u32 ((rgV cs b + n) % 4294967296), .int .u32 0])
 have PB := hid (belRow MB.out (g := g5) (by have := JS.out; omega) #[.int .i64 1, .int .u32 ((rgV cs b + n) % 4294967296), .int .u32 0])
 refine hK.out _ _ ⟨P0, P1⟩ (fun _ => ?_)
 try simp only [lA, lB, lC]
 clear hst hst2
 generalize wy.setRow g5 #[.int .i64 1, .int .u32 ((rgV cs b + n) % 4294967296), .int .u32 0] = W at P0 P1 P2 PN PB ⊢
 clear M0 M1 M2 MN MB
 refine wpAnyH_done (by kernel_rfl) ?_ _
 clear hHeld
 obtain ⟨i0, i1, i2, i3, i4, i5, i6, i7⟩ := accCells P1.out
 have xa := (P0.out.cell a).trans RA.out
 have y0 := PN.out.cell 0
 have y2 := PN.out.cell 2
 simp only [lD, lE, lF] at y0 y2
 have yf0 := PN.out.frozen 0
 have yf2 := PN.out.frozen 2
 have hia : (a : Int) < 16 := by omega
 have hg1 : ¬ w.heap.size = g5 := by have := JS.out; omega
 have hg2 : ¬ g5 = w.heap.size := by have := JS.out; omega
 have hg3 : ¬ w.heap.size + 1 = g5 := by have := JS.out; omega
 have hg4 : ¬ g5 = w.heap.size + 1 := by have := JS.out; omega
 have hmod : rgV cs a % 256 % 4294967296 = rgV cs a % 256 := by omega
 have hl := load_acc ((((PN.out.set 0 (.int .i64 2)).set 0 (.int .i64 4)).set 2 (.int .u32 (rgV cs a))).set 2 (.int .u32 (rgV cs a % 256))) rfl
 simp only [lG, List.set_cons_zero, List.set_cons_succ] at hl
 have hst := store_acc (cs := #[.int .i64 4, .int .u32 ((rgV cs b + n) % 4294967296), .int .u32 (rgV cs a % 256)]) ((((P2.out.far (p := ⟨g5, 0, none⟩) (by have := JS.out; simp; omega) (.int .i64 2)).far (p := ⟨g5, 0, none⟩) (by have := JS.out; simp; omega) (.int .i64 4)).far (p := ⟨g5, 2, none⟩) (by have := JS.out; simp; omega) (.int .u32 (rgV cs a))).far (p := ⟨g5, 2, none⟩) (by have := JS.out; simp; omega) (.int .u32 (rgV cs a % 256))) rfl rfl (acc_one _ _ _)
 have hres := loadVar_acc (((((P2.out.far (p := ⟨g5, 0, none⟩) (by have := JS.out; simp; omega) (.int .i64 2)).far (p := ⟨g5, 0, none⟩) (by have := JS.out; simp; omega) (.int .i64 4)).far (p := ⟨g5, 2, none⟩) (by have := JS.out; simp; omega) (.int .u32 (rgV cs a))).far (p := ⟨g5, 2, none⟩) (by have := JS.out; simp; omega) (.int .u32 (rgV cs a % 256))).setRow #[.int .i64 4, .int .u32 ((rgV cs b + n) % 4294967296), .int .u32 (rgV cs a % 256)]) rfl
 go_wp2_with fail
 refine bodyPost_ret (v := .agg #[.int .i64 4, .int .u32 ((rgV cs b + n) % 4294967296), .int .u32 (rgV cs a % 256)]) ?_ rfl ⟨rfl, belRow ((((PB.out.setCell (p := ⟨g5, 0, none⟩) (by have := JS.out; simp; omega) (.int .i64 2)).setCell (p := ⟨g5, 0, none⟩) (by have := JS.out; simp; omega) (.int .i64 4)).setCell (p := ⟨g5, 2, none⟩) (by have := JS.out; simp; omega) (.int .u32 (rgV cs a))).setCell (p := ⟨g5, 2, none⟩) (by have := JS.out; simp; omega) (.int .u32 (rgV cs a % 256))) (by omega) _⟩
 simp [results, Tryz.results67, asAddr, hres]
theorem racc_any (cs : Array Value) (hc : CpuOk cs) (f : Int) (u v : Bool) (a b op c n : Int) (w : World) (hT : Tab w) :
 Calls Tryz.prog 67 #[.agg cs, .agg #[.int .i64 f, .bool u, .bool v, .int .i64 a, .int .i64 b, .int .i64 op, .int .i64 c, .int .i64 n]] w fun e w' => e = .returned (.agg (accR cs f u v a b op c n)) ∧ Below w.heap.size w w' := by
 cases hr : rightB f u v a b op c n
 ·rw [accR_no (by rw [hr]; simp)]
  exact racc_bad cs hc f u v a b op c n hr w hT
 ·by_cases hf : f = 2
  ·obtain ⟨ha, hb, _⟩ := right_inv hr
   obtain ⟨a, rfl⟩ := Int.eq_ofNat_of_zero_le ha.1
   obtain ⟨b, rfl⟩ := Int.eq_ofNat_of_zero_le hb.1
   subst hf
   unfold accR
   rw [hr]
   cases u <;> cases v
   ·exact racc_ff cs hc a b (by omega) (by omega) op c n hr w hT
   ·exact racc_ft cs hc a b (by omega) (by omega) op c n hr w hT
   ·exact racc_tf cs hc a b (by omega) (by omega) op c n hr w hT
   ·exact racc_tt cs hc a b (by omega) (by omega) op c n hr w hT
  ·rw [accR_no (fun q => hf q.1)]
   exact racc_far cs hc f u v a b op c n hf hr w hT
end Go.Proofs.YtgcknekhimpfkaaGreatDoor
