/- What an access asks of memory; the program's. -/
import Derived.Test.YtgcknekhimpfkaaGreatDoorQI
import Derived.Deep.RegionHeld3
namespace Go.Proofs.YtgcknekhimpfkaaGreatDoor
open Go Go.RowKit Go.Lib Go.Proofs.YtgcknekhimpfkaaGreatDoor.Pl
open List renaming getElem_toArray → lA, getElem_cons_zero → lB, getElem_cons_succ → lC, getElem?_toArray → lD, getElem?_cons_zero → lE, getElem?_cons_succ → lF, setIfInBounds_toArray → lG, set_cons_zero → lH, set_cons_succ → lI
set_option maxHeartbeats 1000000
set_option linter.unusedVariables false
set_option linter.unusedSimpArgs false
theorem exec_load_acc (ρ : Operand → Value) (dst : Option Tmp) (x : Operand) (ty' : TypeId) (pos : String) (after : Array Edge) (guard : Option (Nat × Bool)) :
 execOp ρ ⟨dst, .load 96 x, ty', pos, after, guard⟩ = (do pure (.value (← loadWhole 96 (ρ x)))) := rfl
theorem exec_store_acc (ρ : Operand → Value) (dst : Option Tmp) (x y : Operand) (ty' : TypeId) (pos : String) (after : Array Edge) (guard : Option (Nat × Bool)) :
 execOp ρ ⟨dst, .store 96 x y, ty', pos, after, guard⟩ = (do storeWhole 96 (ρ x) (ρ y); pure .skip) := rfl
theorem load_acc {w : World} {g : Nat} {cs : Array Value} {t : TypeId} (h : Blk w g cs t) (hs : cs.size = 3) : (loadWhole 96 (.pointer (some ⟨g, 0, none⟩))).run Tryz.prog w = .ok (.agg cs) w :=
 run_loadRow h _ _ Tryz.underlying96 rfl (by rw [hs]; kernel_rfl)
theorem store_acc {w : World} {g : Nat} {old cs : Array Value} {t : TypeId} (h : Blk w g old t) (ho : old.size = 3) (hs : cs.size = 3) (h1 : OneRow cs) : (storeWhole 96 (.pointer (some ⟨g, 0, none⟩)) (.agg cs)).run Tryz.prog w = .ok () (w.setRow g cs) :=
 run_storeRow h _ (by rw [hs]; kernel_rfl) (ho.trans hs.symm) h1
theorem loadVar_acc {w : World} {g : Nat} {cs : Array Value} {t : TypeId} (h : Blk w g cs t) (hs : cs.size = 3) : (loadVar 96 ⟨g, 0, none⟩).run Tryz.prog w = .ok (.agg cs) w :=
 run_loadVarRow h _ _ Tryz.underlying96 rfl (by rw [hs]; kernel_rfl)
theorem and255a (l : Int) (h0 : 0 ≤ l) (h1 : l < 4294967296) : bits .and .u32 l 255 = l % 256 := by
 have := and_low l 8 (by omega)
 rw [show l % 4294967296 = l from by omega] at this
 exact this
def accLow (v : Bool) (x : Int) : Int := if v then x % 256 else x
theorem accCells {W : World} {g : Nat} {t : TypeId} {f : Int} {u v : Bool} {a b op c n : Int} (h : Blk W g #[.int .i64 f, .bool u, .bool v, .int .i64 a, .int .i64 b, .int .i64 op, .int .i64 c, .int .i64 n] t) :
 W.cell? ⟨g, 0, none⟩ = some (.int .i64 f) ∧ W.cell? ⟨g, 1, none⟩ = some (.bool u) ∧ W.cell? ⟨g, 2, none⟩ = some (.bool v) ∧ W.cell? ⟨g, 3, none⟩ = some (.int .i64 a) ∧ W.cell? ⟨g, 4, none⟩ = some (.int .i64 b) ∧ W.cell? ⟨g, 5, none⟩ = some (.int .i64 op) ∧ W.cell? ⟨g, 6, none⟩ = some (.int .i64 c) ∧ W.cell? ⟨g, 7, none⟩ = some (.int .i64 n) :=
 ⟨h.cell 0, h.cell 1, h.cell 2, h.cell 3, h.cell 4, h.cell 5, h.cell 6, h.cell 7⟩
/-- What an access asks: kind, address, value. -/
def accK (f : Int) (u v r : Bool) : Int := if f = 2 ∧ r = true then (if u then (if v then 4 else 3) else if v then 2 else 1) else 0
def accA (cs : Array Value) (f b n : Int) (r : Bool) : Int := if f = 2 ∧ r = true then (rgV cs b.toNat + n) % 4294967296 else 0
def accX (cs : Array Value) (f : Int) (u v : Bool) (a : Int) (r : Bool) : Int := if f = 2 ∧ r = true ∧ u = true then accLow v (rgV cs a.toNat) else 0
def accR (cs : Array Value) (f : Int) (u v : Bool) (a b op c n : Int) : Array Value := #[.int .i64 (accK f u v (rightB f u v a b op c n)), .int .u32 (accA cs f b n (rightB f u v a b op c n)), .int .u32 (accX cs f u v a (rightB f u v a b op c n))]
theorem accR_no {cs : Array Value} {f : Int} {u v : Bool} {a b op c n : Int} (h : ¬ (f = 2 ∧ rightB f u v a b op c n = true)) : accR cs f u v a b op c n = #[.int .i64 0, .int .u32 0, .int .u32 0] := by
 unfold accR accK accA accX
 rw [if_neg h, if_neg h, if_neg (fun q => h ⟨q.1, q.2.1⟩)]
theorem acc_one (k x y : Int) : OneRow #[.int .i64 k, .int .u32 x, .int .u32 y] := by
 intro v hv
 simp at hv
 rcases hv with rfl | rfl | rfl <;> rfl
theorem three_mk (w : World) (A B C : Array Value) (ta tb tc : TypeId) : Blk (((w.alloc (.cells A ta)).alloc (.cells B tb)).alloc (.cells C tc)) w.heap.size A ta ∧ Blk (((w.alloc (.cells A ta)).alloc (.cells B tb)).alloc (.cells C tc)) (w.heap.size + 1) B tb ∧ Blk (((w.alloc (.cells A ta)).alloc (.cells B tb)).alloc (.cells C tc)) (w.heap.size + 1 + 1) C tc ∧ w.heap.size + 3 ≤ (((w.alloc (.cells A ta)).alloc (.cells B tb)).alloc (.cells C tc)).heap.size ∧ Below w.heap.size w (((w.alloc (.cells A ta)).alloc (.cells B tb)).alloc (.cells C tc)) := by
 have h2 := Blk.new (w.alloc (.cells A ta)) B tb
 have h3 := Blk.new ((w.alloc (.cells A ta)).alloc (.cells B tb)) C tc
 simp only [World.size_alloc] at h2 h3
 exact ⟨((Blk.new w A ta).old _).old _, h2.old _, h3, by simp, (((Below.refl _ _).alloc (Nat.le_refl _) _).alloc (by simp) _).alloc (by simp; omega) _⟩
attribute [local go_sem ↓] exec_load_cpu exec_store_cpu exec_load_acc exec_store_acc
theorem right_yes {f : Int} {u v : Bool} {a b op c n : Int} (hr : rightB f u v a b op c n = true) (w : World) (hT : Tab w) :
 Calls Tryz.prog 53 #[.agg #[.int .i64 f, .bool u, .bool v, .int .i64 a, .int .i64 b, .int .i64 op, .int .i64 c, .int .i64 n]] w fun e w' => e = .returned (.bool true) ∧ Below w.heap.size w w' := by
 have := right_any f u v a b op c n w hT
 rw [hr] at this
 exact this
theorem right_no {f : Int} {u v : Bool} {a b op c n : Int} (hr : rightB f u v a b op c n = false) (w : World) (hT : Tab w) :
 Calls Tryz.prog 53 #[.agg #[.int .i64 f, .bool u, .bool v, .int .i64 a, .int .i64 b, .int .i64 op, .int .i64 c, .int .i64 n]] w fun e w' => e = .returned (.bool false) ∧ Below w.heap.size w w' := by
 have := right_any f u v a b op c n w hT
 rw [hr] at this
 exact this
set_option maxRecDepth 100000 in
theorem acc_far (cs : Array Value) (hc : CpuOk cs) (f : Int) (u v : Bool) (a b op c n : Int) (hf : ¬ f = 2) (w : World) (hT : Tab w) :
 Calls Tryz.prog 36 #[.agg cs, .agg #[.int .i64 f, .bool u, .bool v, .int .i64 a, .int .i64 b, .int .i64 op, .int .i64 c, .int .i64 n]] w fun e w' => e = .returned (.agg #[.int .i64 0, .int .u32 0, .int .u32 0]) ∧ Below w.heap.size w w' := by
 have e1 : decide (f = 2) = false := decide_eq_false hf
 have e2 : (f == 2) = false := by simp [hf]
 have e3 : (f != 2) = true := by simp [hf]
 have HC := hid hc
 have HT := tabHid hT
 clear hc hT
 go_enter Tryz.func36, Tryz.ntmps36
 go_upto_region 1 with fail
 obtain ⟨k0, k1, k2, ks, kb⟩ := three_mk w cs #[.int .i64 f, .bool u, .bool v, .int .i64 a, .int .i64 b, .int .i64 op, .int .i64 c, .int .i64 n] #[.int .i64 0, .int .u32 0, .int .u32 0] 50 92 96
 have K0 := hid k0
 have K1 := hid k1
 have K2 := hid k2
 have KS := hid ks
 have KB := hid kb
 clear k0 k1 k2 ks kb
 generalize ((w.alloc (.cells cs 50)).alloc (.cells #[.int .i64 f, .bool u, .bool v, .int .i64 a, .int .i64 b, .int .i64 op, .int .i64 c, .int .i64 n] 92)).alloc (.cells #[.int .i64 0, .int .u32 0, .int .u32 0] 96) = W0 at K0 K1 K2 KS KB ⊢
 obtain ⟨i0, i1, i2, i3, i4, i5, i6, i7⟩ := accCells K1.out
 have hst := store_acc (cs := #[.int .i64 0, .int .u32 0, .int .u32 0]) K2.out rfl rfl (acc_one 0 0 0)
 have hres := loadVar_acc (K2.out.setRow #[.int .i64 0, .int .u32 0, .int .u32 0]) rfl
 go_wp2_with fail
 refine bodyPost_ret (v := .agg #[.int .i64 0, .int .u32 0, .int .u32 0]) ?_ rfl ⟨rfl, belRow KB.out (by omega) _⟩
 simp [results, Tryz.results36, asAddr, hres]
set_option maxRecDepth 100000 in
theorem acc_bad (cs : Array Value) (hc : CpuOk cs) (u v : Bool) (a b op c n : Int) (hr : rightB 2 u v a b op c n = false) (w : World) (hT : Tab w) :
 Calls Tryz.prog 36 #[.agg cs, .agg #[.int .i64 2, .bool u, .bool v, .int .i64 a, .int .i64 b, .int .i64 op, .int .i64 c, .int .i64 n]] w fun e w' => e = .returned (.agg #[.int .i64 0, .int .u32 0, .int .u32 0]) ∧ Below w.heap.size w w' := by
 have HR := hid hr
 clear hr
 have HC := hid hc
 have HT := tabHid hT
 clear hc hT
 go_enter Tryz.func36, Tryz.ntmps36
 go_upto_region 1 with fail
 obtain ⟨k0, k1, k2, ks, kb⟩ := three_mk w cs #[.int .i64 2, .bool u, .bool v, .int .i64 a, .int .i64 b, .int .i64 op, .int .i64 c, .int .i64 n] #[.int .i64 0, .int .u32 0, .int .u32 0] 50 92 96
 have K0 := hid k0
 have K1 := hid k1
 have K2 := hid k2
 have KS := hid ks
 have KB := hid kb
 clear k0 k1 k2 ks kb
 generalize ((w.alloc (.cells cs 50)).alloc (.cells #[.int .i64 2, .bool u, .bool v, .int .i64 a, .int .i64 b, .int .i64 op, .int .i64 c, .int .i64 n] 92)).alloc (.cells #[.int .i64 0, .int .u32 0, .int .u32 0] 96) = W0 at K0 K1 K2 KS KB ⊢
 obtain ⟨i0, i1, i2, i3, i4, i5, i6, i7⟩ := accCells K1.out
 go_upto_region 2 with (go_at_call 53; refine (right_no HR.out _ (HT.out _ KB.out)).mono ?_; rintro e w1 ⟨rfl, hb1⟩; have A0 := hid (K0.out.step hb1); have A1 := hid (K1.out.step hb1); have A2 := hid (K2.out.step hb1); have AB := hid (KB.out.trans (hb1.mono KB.out.size)); clear hb1; obtain ⟨j0, j1, j2, j3, j4, j5, j6, j7⟩ := accCells A1.out)
 have hst := store_acc (cs := #[.int .i64 0, .int .u32 0, .int .u32 0]) A2.out rfl rfl (acc_one 0 0 0)
 have hres := loadVar_acc (A2.out.setRow #[.int .i64 0, .int .u32 0, .int .u32 0]) rfl
 go_wp2_with fail
 refine bodyPost_ret (v := .agg #[.int .i64 0, .int .u32 0, .int .u32 0]) ?_ rfl ⟨rfl, belRow AB.out (by omega) _⟩
 simp [results, Tryz.results36, asAddr, hres]
set_option maxRecDepth 100000 in
theorem acc_ff (cs : Array Value) (hc : CpuOk cs) (a b : Nat) (ha : a ≤ 15) (hb : b ≤ 15) (op c n : Int) (hr : rightB 2 false false a b op c n = true) (w : World) (hT : Tab w) :
 Calls Tryz.prog 36 #[.agg cs, .agg #[.int .i64 2, .bool false, .bool false, .int .i64 a, .int .i64 b, .int .i64 op, .int .i64 c, .int .i64 n]] w fun e w' => e = .returned (.agg #[.int .i64 1, .int .u32 ((rgV cs b + n) % 4294967296), .int .u32 0]) ∧ Below w.heap.size w w' := by
 have HR := hid hr
 clear hr
 have HC := hid hc
 have HT := tabHid hT
 clear hc hT
 go_enter Tryz.func36, Tryz.ntmps36
 go_upto_region 1 with fail
 obtain ⟨k0, k1, k2, ks, kb⟩ := three_mk w cs #[.int .i64 2, .bool false, .bool false, .int .i64 a, .int .i64 b, .int .i64 op, .int .i64 c, .int .i64 n] #[.int .i64 0, .int .u32 0, .int .u32 0] 50 92 96
 have K0 := hid k0
 have K1 := hid k1
 have K2 := hid k2
 have KS := hid ks
 have KB := hid kb
 clear k0 k1 k2 ks kb
 generalize ((w.alloc (.cells cs 50)).alloc (.cells #[.int .i64 2, .bool false, .bool false, .int .i64 a, .int .i64 b, .int .i64 op, .int .i64 c, .int .i64 n] 92)).alloc (.cells #[.int .i64 0, .int .u32 0, .int .u32 0] 96) = W0 at K0 K1 K2 KS KB ⊢
 obtain ⟨i0, i1, i2, i3, i4, i5, i6, i7⟩ := accCells K1.out
 go_upto_region 3 with (go_at_call 53; refine (right_yes HR.out _ (HT.out _ KB.out)).mono ?_; rintro e w1 ⟨rfl, hb1⟩; have A0 := hid (K0.out.step hb1); have A1 := hid (K1.out.step hb1); have A2 := hid (K2.out.step hb1); have AS := hid (Nat.le_trans KS.out hb1.size); have AB := hid (KB.out.trans (hb1.mono KB.out.size)); clear hb1; obtain ⟨j0, j1, j2, j3, j4, j5, j6, j7⟩ := accCells A1.out)
 clear i0 i1 i2 i3 i4 i5 i6 i7 j0 j1 j2 j3 j4 j5 j6 j7 K0 K1 K2 KS KB
 obtain ⟨rb, rb0, rb1⟩ := HC.out.rg (k := b) (by omega)
 have RB := hid rb
 obtain ⟨ra, ra0, ra1⟩ := HC.out.rg (k := a) (by omega)
 have RA := hid ra
 clear rb ra
 have J0 : Hid (Blk w1.drew w.heap.size cs 50) := A0.out
 have J1 : Hid (Blk w1.drew (w.heap.size + 1) #[.int .i64 2, .bool false, .bool false, .int .i64 a, .int .i64 b, .int .i64 op, .int .i64 c, .int .i64 n] 92) := A1.out
 have J2 : Hid (Blk w1.drew (w.heap.size + 1 + 1) #[.int .i64 0, .int .u32 0, .int .u32 0] 96) := A2.out
 have JB : Hid (Below w.heap.size w w1.drew) := belN AB.out 1
 have JS : Hid (w.heap.size + 3 ≤ w1.drew.heap.size) := AS.out
 clear A0 A1 A2 AS AB
 refine wp_region_held_drew (S := (fun w' => Hid (Blk w' w.heap.size cs 50) ∧ Hid (Blk w' (w.heap.size + 1) #[.int .i64 2, .bool false, .bool false, .int .i64 a, .int .i64 b, .int .i64 op, .int .i64 c, .int .i64 n] 92))) (by kernel_rfl) ⟨J0, J1⟩ (fun hHeld => ?_)
 clear hHeld
 generalize w1.drew = wd at J0 J1 J2 JB JS ⊢
 have hHeld : ((fun w' => Hid (Blk w' w.heap.size cs 50) ∧ Hid (Blk w' (w.heap.size + 1) #[.int .i64 2, .bool false, .bool false, .int .i64 a, .int .i64 b, .int .i64 op, .int .i64 c, .int .i64 n] 92)) wd) := ⟨J0, J1⟩
 refine tke 0 (v := ?v0_1) ?hy0_1 (by assumption) ?rest0_1
 case hy0_1 => rintro wq ⟨q0, q1⟩; have ib := (q0.out.cell b).trans RB.out; obtain ⟨i0, i1, i2, i3, i4, i5, i6, i7⟩ := accCells q1.out; clear q0 q1; have hib : (b : Int) < 16 := (by omega); have hia : (a : Int) < 16 := (by omega); go_simp; try with_reducible rfl
 refine tke 1 (v := ?v1_2) ?hy1_2 (by assumption) ?rest1_2
 case hy1_2 => rintro wq ⟨q0, q1⟩; have ib := (q0.out.cell b).trans RB.out; obtain ⟨i0, i1, i2, i3, i4, i5, i6, i7⟩ := accCells q1.out; clear q0 q1; have hib : (b : Int) < 16 := (by omega); have hia : (a : Int) < 16 := (by omega); go_simp; try with_reducible rfl
 refine tke 2 (v := ?v2_3) ?hy2_3 (by assumption) ?rest2_3
 case hy2_3 => rintro wq ⟨q0, q1⟩; have ib := (q0.out.cell b).trans RB.out; obtain ⟨i0, i1, i2, i3, i4, i5, i6, i7⟩ := accCells q1.out; clear q0 q1; have hib : (b : Int) < 16 := (by omega); have hia : (a : Int) < 16 := (by omega); go_simp; try with_reducible rfl
 refine tke 3 (v := ?v3_4) ?hy3_4 (by assumption) ?rest3_4
 case hy3_4 => rintro wq ⟨q0, q1⟩; have ib := (q0.out.cell b).trans RB.out; obtain ⟨i0, i1, i2, i3, i4, i5, i6, i7⟩ := accCells q1.out; clear q0 q1; have hib : (b : Int) < 16 := (by omega); have hia : (a : Int) < 16 := (by omega); go_simp; try with_reducible rfl
 refine tke 4 (v := ?v4_5) ?hy4_5 (by assumption) ?rest4_5
 case hy4_5 => rintro wq ⟨q0, q1⟩; have ib := (q0.out.cell b).trans RB.out; obtain ⟨i0, i1, i2, i3, i4, i5, i6, i7⟩ := accCells q1.out; clear q0 q1; have hib : (b : Int) < 16 := (by omega); have hia : (a : Int) < 16 := (by omega); go_simp; try with_reducible rfl
 refine tke 5 (v := ?v5_6) ?hy5_6 (by assumption) ?rest5_6
 case hy5_6 => rintro wq ⟨q0, q1⟩; have ib := (q0.out.cell b).trans RB.out; obtain ⟨i0, i1, i2, i3, i4, i5, i6, i7⟩ := accCells q1.out; clear q0 q1; have hib : (b : Int) < 16 := (by omega); have hia : (a : Int) < 16 := (by omega); go_simp; try with_reducible rfl
 refine tke 6 (v := ?v6_7) ?hy6_7 (by assumption) ?rest6_7
 case hy6_7 => rintro wq ⟨q0, q1⟩; have ib := (q0.out.cell b).trans RB.out; obtain ⟨i0, i1, i2, i3, i4, i5, i6, i7⟩ := accCells q1.out; clear q0 q1; have hib : (b : Int) < 16 := (by omega); have hia : (a : Int) < 16 := (by omega); go_simp; try with_reducible rfl
 refine tke 7 (v := ?v7_8) ?hy7_8 (by assumption) ?rest7_8
 case hy7_8 => rintro wq ⟨q0, q1⟩; have ib := (q0.out.cell b).trans RB.out; obtain ⟨i0, i1, i2, i3, i4, i5, i6, i7⟩ := accCells q1.out; clear q0 q1; have hib : (b : Int) < 16 := (by omega); have hia : (a : Int) < 16 := (by omega); go_simp; try with_reducible rfl
 refine tke 8 (v := ?v8_9) ?hy8_9 (by assumption) ?rest8_9
 case hy8_9 => rintro wq ⟨q0, q1⟩; have ib := (q0.out.cell b).trans RB.out; obtain ⟨i0, i1, i2, i3, i4, i5, i6, i7⟩ := accCells q1.out; clear q0 q1; have hib : (b : Int) < 16 := (by omega); have hia : (a : Int) < 16 := (by omega); go_simp; try with_reducible rfl
 refine tke 9 (v := ?v9_10) ?hy9_10 (by assumption) ?rest9_10
 case hy9_10 => rintro wq ⟨q0, q1⟩; have ib := (q0.out.cell b).trans RB.out; obtain ⟨i0, i1, i2, i3, i4, i5, i6, i7⟩ := accCells q1.out; clear q0 q1; have hib : (b : Int) < 16 := (by omega); have hia : (a : Int) < 16 := (by omega); go_simp; try with_reducible rfl
 refine wpAnyH_ready (rs := [10]) (by kernel_rfl) (by simp) ?_
 refine AllReadyH.cons (o := _) rfl (fun K hK => ?_) AllReadyH.nil
 try simp only [lA, lB, lC]
 go_simp
 have M0 := hid (J0.out.old (.cells #[.int .i64 0, .int .u32 0, .int .u32 0] 96))
 have M1 := hid (J1.out.old (.cells #[.int .i64 0, .int .u32 0, .int .u32 0] 96))
 have M2 := hid (J2.out.old (.cells #[.int .i64 0, .int .u32 0, .int .u32 0] 96))
 have MN := hid (Blk.new wd #[.int .i64 0, .int .u32 0, .int .u32 0] 96)
 have MB := hid (JB.out.alloc JB.out.size (.cells #[.int .i64 0, .int .u32 0, .int .u32 0] 96))
 refine hK.out _ _ ⟨M0, M1⟩ (fun _ => ?_)
 try simp only [lA, lB, lC]
 obtain ⟨g5, hg⟩ : ∃ g, wd.heap.size = g := ⟨_, rfl⟩
 rw [hg] at MN JS ⊢
 clear hg
 generalize wd.alloc (.cells #[.int .i64 0, .int .u32 0, .int .u32 0] 96) = wy at M0 M1 M2 MN MB ⊢
 clear J0 J1 J2 JB
 refine wpAnyH_ready (rs := [11]) (by kernel_rfl) (by simp) ?_
 refine AllReadyH.cons (o := _) rfl (fun K hK => ?_) AllReadyH.nil
 try simp only [lA, lB, lC]
 have hst := store_acc (cs := #[.int .i64 0, .int .u32 ((rgV cs b + n) % 4294967296), .int .u32 0]) MN.out rfl rfl (acc_one _ _ _)
 have hst2 := store_acc (cs := #[.int .i64 0, .int .u32 ((rgV cs b + n % 4294967296) % 4294967296), .int .u32 0]) MN.out rfl rfl (acc_one _ _ _)
 rw [Int.add_emod_emod] at hst2
 have hwr : IntKind.u32.wrap (rgV cs b + IntKind.u32.wrap n) = (rgV cs b + n) % 4294967296 := by show (rgV cs b + n % 4294967296) % 4294967296 = _; omega
 rw [hwr]
 go_simp
 have P0 := hid (M0.out.farRow (k := g5) (by have := JS.out; omega) #[.int .i64 0, .int .u32 ((rgV cs b + n) % 4294967296), .int .u32 0])
 have P1 := hid (M1.out.farRow (k := g5) (by have := JS.out; omega) #[.int .i64 0, .int .u32 ((rgV cs b + n) % 4294967296), .int .u32 0])
 have P2 := hid (M2.out.farRow (k := g5) (by have := JS.out; omega) #[.int .i64 0, .int .u32 ((rgV cs b + n) % 4294967296), .int .u32 0])
 have PN := hid (MN.out.setRow #[.int .i64 0, .int .u32 ((rgV cs b + n) % 4294967296), .int .u32 0])
 have PB := hid (belRow MB.out (g := g5) (by have := JS.out; omega) #[.int .i64 0, .int .u32 ((rgV cs b + n) % 4294967296), .int .u32 0])
 refine hK.out _ _ ⟨P0, P1⟩ (fun _ => ?_)
 try simp only [lA, lB, lC]
 clear hst hst2
 generalize wy.setRow g5 #[.int .i64 0, .int .u32 ((rgV cs b + n) % 4294967296), .int .u32 0] = W at P0 P1 P2 PN PB ⊢
 clear M0 M1 M2 MN MB
 refine wpAnyH_done (by kernel_rfl) ?_ _
 clear hHeld
 obtain ⟨i0, i1, i2, i3, i4, i5, i6, i7⟩ := accCells P1.out
 have xa := (P0.out.cell a).trans RA.out
 have y0 := PN.out.cell 0
 simp only [lD, lE, lF] at y0
 have yf := PN.out.frozen 0
 have hl := load_acc (PN.out.set 0 (.int .i64 1)) rfl
 simp only [lG, lH] at hl
 have hst := store_acc (cs := #[.int .i64 1, .int .u32 ((rgV cs b + n) % 4294967296), .int .u32 0]) (P2.out.far (p := ⟨g5, 0, none⟩) (by have := JS.out; simp; omega) (.int .i64 1)) rfl rfl (acc_one _ _ _)
 have hres := loadVar_acc ((P2.out.far (p := ⟨g5, 0, none⟩) (by have := JS.out; simp; omega) (.int .i64 1)).setRow #[.int .i64 1, .int .u32 ((rgV cs b + n) % 4294967296), .int .u32 0]) rfl
 go_wp2_with fail
 refine bodyPost_ret (v := .agg #[.int .i64 1, .int .u32 ((rgV cs b + n) % 4294967296), .int .u32 0]) ?_ rfl ⟨rfl, belRow (PB.out.setCell (by have := JS.out; simp; omega) _) (by omega) _⟩
 simp [results, Tryz.results36, asAddr, hres]
set_option maxRecDepth 100000 in
theorem acc_ft (cs : Array Value) (hc : CpuOk cs) (a b : Nat) (ha : a ≤ 15) (hb : b ≤ 15) (op c n : Int) (hr : rightB 2 false true a b op c n = true) (w : World) (hT : Tab w) :
 Calls Tryz.prog 36 #[.agg cs, .agg #[.int .i64 2, .bool false, .bool true, .int .i64 a, .int .i64 b, .int .i64 op, .int .i64 c, .int .i64 n]] w fun e w' => e = .returned (.agg #[.int .i64 2, .int .u32 ((rgV cs b + n) % 4294967296), .int .u32 0]) ∧ Below w.heap.size w w' := by
 have HR := hid hr
 clear hr
 have HC := hid hc
 have HT := tabHid hT
 clear hc hT
 go_enter Tryz.func36, Tryz.ntmps36
 go_upto_region 1 with fail
 obtain ⟨k0, k1, k2, ks, kb⟩ := three_mk w cs #[.int .i64 2, .bool false, .bool true, .int .i64 a, .int .i64 b, .int .i64 op, .int .i64 c, .int .i64 n] #[.int .i64 0, .int .u32 0, .int .u32 0] 50 92 96
 have K0 := hid k0
 have K1 := hid k1
 have K2 := hid k2
 have KS := hid ks
 have KB := hid kb
 clear k0 k1 k2 ks kb
 generalize ((w.alloc (.cells cs 50)).alloc (.cells #[.int .i64 2, .bool false, .bool true, .int .i64 a, .int .i64 b, .int .i64 op, .int .i64 c, .int .i64 n] 92)).alloc (.cells #[.int .i64 0, .int .u32 0, .int .u32 0] 96) = W0 at K0 K1 K2 KS KB ⊢
 obtain ⟨i0, i1, i2, i3, i4, i5, i6, i7⟩ := accCells K1.out
 go_upto_region 3 with (go_at_call 53; refine (right_yes HR.out _ (HT.out _ KB.out)).mono ?_; rintro e w1 ⟨rfl, hb1⟩; have A0 := hid (K0.out.step hb1); have A1 := hid (K1.out.step hb1); have A2 := hid (K2.out.step hb1); have AS := hid (Nat.le_trans KS.out hb1.size); have AB := hid (KB.out.trans (hb1.mono KB.out.size)); clear hb1; obtain ⟨j0, j1, j2, j3, j4, j5, j6, j7⟩ := accCells A1.out)
 clear i0 i1 i2 i3 i4 i5 i6 i7 j0 j1 j2 j3 j4 j5 j6 j7 K0 K1 K2 KS KB
 obtain ⟨rb, rb0, rb1⟩ := HC.out.rg (k := b) (by omega)
 have RB := hid rb
 obtain ⟨ra, ra0, ra1⟩ := HC.out.rg (k := a) (by omega)
 have RA := hid ra
 clear rb ra
 have J0 : Hid (Blk w1.drew w.heap.size cs 50) := A0.out
 have J1 : Hid (Blk w1.drew (w.heap.size + 1) #[.int .i64 2, .bool false, .bool true, .int .i64 a, .int .i64 b, .int .i64 op, .int .i64 c, .int .i64 n] 92) := A1.out
 have J2 : Hid (Blk w1.drew (w.heap.size + 1 + 1) #[.int .i64 0, .int .u32 0, .int .u32 0] 96) := A2.out
 have JB : Hid (Below w.heap.size w w1.drew) := belN AB.out 1
 have JS : Hid (w.heap.size + 3 ≤ w1.drew.heap.size) := AS.out
 clear A0 A1 A2 AS AB
 refine wp_region_held_drew (S := (fun w' => Hid (Blk w' w.heap.size cs 50) ∧ Hid (Blk w' (w.heap.size + 1) #[.int .i64 2, .bool false, .bool true, .int .i64 a, .int .i64 b, .int .i64 op, .int .i64 c, .int .i64 n] 92))) (by kernel_rfl) ⟨J0, J1⟩ (fun hHeld => ?_)
 clear hHeld
 generalize w1.drew = wd at J0 J1 J2 JB JS ⊢
 have hHeld : ((fun w' => Hid (Blk w' w.heap.size cs 50) ∧ Hid (Blk w' (w.heap.size + 1) #[.int .i64 2, .bool false, .bool true, .int .i64 a, .int .i64 b, .int .i64 op, .int .i64 c, .int .i64 n] 92)) wd) := ⟨J0, J1⟩
 refine tke 0 (v := ?v0_11) ?hy0_11 (by assumption) ?rest0_11
 case hy0_11 => rintro wq ⟨q0, q1⟩; have ib := (q0.out.cell b).trans RB.out; obtain ⟨i0, i1, i2, i3, i4, i5, i6, i7⟩ := accCells q1.out; clear q0 q1; have hib : (b : Int) < 16 := (by omega); have hia : (a : Int) < 16 := (by omega); go_simp; try with_reducible rfl
 refine tke 1 (v := ?v1_12) ?hy1_12 (by assumption) ?rest1_12
 case hy1_12 => rintro wq ⟨q0, q1⟩; have ib := (q0.out.cell b).trans RB.out; obtain ⟨i0, i1, i2, i3, i4, i5, i6, i7⟩ := accCells q1.out; clear q0 q1; have hib : (b : Int) < 16 := (by omega); have hia : (a : Int) < 16 := (by omega); go_simp; try with_reducible rfl
 refine tke 2 (v := ?v2_13) ?hy2_13 (by assumption) ?rest2_13
 case hy2_13 => rintro wq ⟨q0, q1⟩; have ib := (q0.out.cell b).trans RB.out; obtain ⟨i0, i1, i2, i3, i4, i5, i6, i7⟩ := accCells q1.out; clear q0 q1; have hib : (b : Int) < 16 := (by omega); have hia : (a : Int) < 16 := (by omega); go_simp; try with_reducible rfl
 refine tke 3 (v := ?v3_14) ?hy3_14 (by assumption) ?rest3_14
 case hy3_14 => rintro wq ⟨q0, q1⟩; have ib := (q0.out.cell b).trans RB.out; obtain ⟨i0, i1, i2, i3, i4, i5, i6, i7⟩ := accCells q1.out; clear q0 q1; have hib : (b : Int) < 16 := (by omega); have hia : (a : Int) < 16 := (by omega); go_simp; try with_reducible rfl
 refine tke 4 (v := ?v4_15) ?hy4_15 (by assumption) ?rest4_15
 case hy4_15 => rintro wq ⟨q0, q1⟩; have ib := (q0.out.cell b).trans RB.out; obtain ⟨i0, i1, i2, i3, i4, i5, i6, i7⟩ := accCells q1.out; clear q0 q1; have hib : (b : Int) < 16 := (by omega); have hia : (a : Int) < 16 := (by omega); go_simp; try with_reducible rfl
 refine tke 5 (v := ?v5_16) ?hy5_16 (by assumption) ?rest5_16
 case hy5_16 => rintro wq ⟨q0, q1⟩; have ib := (q0.out.cell b).trans RB.out; obtain ⟨i0, i1, i2, i3, i4, i5, i6, i7⟩ := accCells q1.out; clear q0 q1; have hib : (b : Int) < 16 := (by omega); have hia : (a : Int) < 16 := (by omega); go_simp; try with_reducible rfl
 refine tke 6 (v := ?v6_17) ?hy6_17 (by assumption) ?rest6_17
 case hy6_17 => rintro wq ⟨q0, q1⟩; have ib := (q0.out.cell b).trans RB.out; obtain ⟨i0, i1, i2, i3, i4, i5, i6, i7⟩ := accCells q1.out; clear q0 q1; have hib : (b : Int) < 16 := (by omega); have hia : (a : Int) < 16 := (by omega); go_simp; try with_reducible rfl
 refine tke 7 (v := ?v7_18) ?hy7_18 (by assumption) ?rest7_18
 case hy7_18 => rintro wq ⟨q0, q1⟩; have ib := (q0.out.cell b).trans RB.out; obtain ⟨i0, i1, i2, i3, i4, i5, i6, i7⟩ := accCells q1.out; clear q0 q1; have hib : (b : Int) < 16 := (by omega); have hia : (a : Int) < 16 := (by omega); go_simp; try with_reducible rfl
 refine tke 8 (v := ?v8_19) ?hy8_19 (by assumption) ?rest8_19
 case hy8_19 => rintro wq ⟨q0, q1⟩; have ib := (q0.out.cell b).trans RB.out; obtain ⟨i0, i1, i2, i3, i4, i5, i6, i7⟩ := accCells q1.out; clear q0 q1; have hib : (b : Int) < 16 := (by omega); have hia : (a : Int) < 16 := (by omega); go_simp; try with_reducible rfl
 refine tke 9 (v := ?v9_20) ?hy9_20 (by assumption) ?rest9_20
 case hy9_20 => rintro wq ⟨q0, q1⟩; have ib := (q0.out.cell b).trans RB.out; obtain ⟨i0, i1, i2, i3, i4, i5, i6, i7⟩ := accCells q1.out; clear q0 q1; have hib : (b : Int) < 16 := (by omega); have hia : (a : Int) < 16 := (by omega); go_simp; try with_reducible rfl
 refine wpAnyH_ready (rs := [10]) (by kernel_rfl) (by simp) ?_
 refine AllReadyH.cons (o := _) rfl (fun K hK => ?_) AllReadyH.nil
 try simp only [lA, lB, lC]
 go_simp
 have M0 := hid (J0.out.old (.cells #[.int .i64 0, .int .u32 0, .int .u32 0] 96))
 have M1 := hid (J1.out.old (.cells #[.int .i64 0, .int .u32 0, .int .u32 0] 96))
 have M2 := hid (J2.out.old (.cells #[.int .i64 0, .int .u32 0, .int .u32 0] 96))
 have MN := hid (Blk.new wd #[.int .i64 0, .int .u32 0, .int .u32 0] 96)
 have MB := hid (JB.out.alloc JB.out.size (.cells #[.int .i64 0, .int .u32 0, .int .u32 0] 96))
 refine hK.out _ _ ⟨M0, M1⟩ (fun _ => ?_)
 try simp only [lA, lB, lC]
 obtain ⟨g5, hg⟩ : ∃ g, wd.heap.size = g := ⟨_, rfl⟩
 rw [hg] at MN JS ⊢
 clear hg
 generalize wd.alloc (.cells #[.int .i64 0, .int .u32 0, .int .u32 0] 96) = wy at M0 M1 M2 MN MB ⊢
 clear J0 J1 J2 JB
 refine wpAnyH_ready (rs := [11]) (by kernel_rfl) (by simp) ?_
 refine AllReadyH.cons (o := _) rfl (fun K hK => ?_) AllReadyH.nil
 try simp only [lA, lB, lC]
 have hst := store_acc (cs := #[.int .i64 0, .int .u32 ((rgV cs b + n) % 4294967296), .int .u32 0]) MN.out rfl rfl (acc_one _ _ _)
 have hst2 := store_acc (cs := #[.int .i64 0, .int .u32 ((rgV cs b + n % 4294967296) % 4294967296), .int .u32 0]) MN.out rfl rfl (acc_one _ _ _)
 rw [Int.add_emod_emod] at hst2
 have hwr : IntKind.u32.wrap (rgV cs b + IntKind.u32.wrap n) = (rgV cs b + n) % 4294967296 := by show (rgV cs b + n % 4294967296) % 4294967296 = _; omega
 rw [hwr]
 go_simp
 have P0 := hid (M0.out.farRow (k := g5) (by have := JS.out; omega) #[.int .i64 0, .int .u32 ((rgV cs b + n) % 4294967296), .int .u32 0])
 have P1 := hid (M1.out.farRow (k := g5) (by have := JS.out; omega) #[.int .i64 0, .int .u32 ((rgV cs b + n) % 4294967296), .int .u32 0])
 have P2 := hid (M2.out.farRow (k := g5) (by have := JS.out; omega) #[.int .i64 0, .int .u32 ((rgV cs b + n) % 4294967296), .int .u32 0])
 have PN := hid (MN.out.setRow #[.int .i64 0, .int .u32 ((rgV cs b + n) % 4294967296), .int .u32 0])
 have PB := hid (belRow MB.out (g := g5) (by have := JS.out; omega) #[.int .i64 0, .int .u32 ((rgV cs b + n) % 4294967296), .int .u32 0])
 refine hK.out _ _ ⟨P0, P1⟩ (fun _ => ?_)
 try simp only [lA, lB, lC]
 clear hst hst2
 generalize wy.setRow g5 #[.int .i64 0, .int .u32 ((rgV cs b + n) % 4294967296), .int .u32 0] = W at P0 P1 P2 PN PB ⊢
 clear M0 M1 M2 MN MB
 refine wpAnyH_done (by kernel_rfl) ?_ _
 clear hHeld
 obtain ⟨i0, i1, i2, i3, i4, i5, i6, i7⟩ := accCells P1.out
 have xa := (P0.out.cell a).trans RA.out
 have y0 := PN.out.cell 0
 simp only [lD, lE, lF] at y0
 have yf := PN.out.frozen 0
 have hl := load_acc (PN.out.set 0 (.int .i64 2)) rfl
 simp only [lG, lH] at hl
 have hst := store_acc (cs := #[.int .i64 2, .int .u32 ((rgV cs b + n) % 4294967296), .int .u32 0]) (P2.out.far (p := ⟨g5, 0, none⟩) (by have := JS.out; simp; omega) (.int .i64 2)) rfl rfl (acc_one _ _ _)
 have hres := loadVar_acc ((P2.out.far (p := ⟨g5, 0, none⟩) (by have := JS.out; simp; omega) (.int .i64 2)).setRow #[.int .i64 2, .int .u32 ((rgV cs b + n) % 4294967296), .int .u32 0]) rfl
 go_wp2_with fail
 refine bodyPost_ret (v := .agg #[.int .i64 2, .int .u32 ((rgV cs b + n) % 4294967296), .int .u32 0]) ?_ rfl ⟨rfl, belRow (PB.out.setCell (by have := JS.out; simp; omega) _) (by omega) _⟩
 simp [results, Tryz.results36, asAddr, hres]
set_option maxRecDepth 100000 in
theorem acc_tf (cs : Array Value) (hc : CpuOk cs) (a b : Nat) (ha : a ≤ 15) (hb : b ≤ 15) (op c n : Int) (hr : rightB 2 true false a b op c n = true) (w : World) (hT : Tab w) :
 Calls Tryz.prog 36 #[.agg cs, .agg #[.int .i64 2, .bool true, .bool false, .int .i64 a, .int .i64 b, .int .i64 op, .int .i64 c, .int .i64 n]] w fun e w' => e = .returned (.agg #[.int .i64 3, .int .u32 ((rgV cs b + n) % 4294967296), .int .u32 (rgV cs a)]) ∧ Below w.heap.size w w' := by
 have HR := hid hr
 clear hr
 have HC := hid hc
 have HT := tabHid hT
 clear hc hT
 go_enter Tryz.func36, Tryz.ntmps36
 go_upto_region 1 with fail
 obtain ⟨k0, k1, k2, ks, kb⟩ := three_mk w cs #[.int .i64 2, .bool true, .bool false, .int .i64 a, .int .i64 b, .int .i64 op, .int .i64 c, .int .i64 n] #[.int .i64 0, .int .u32 0, .int .u32 0] 50 92 96
 have K0 := hid k0
 have K1 := hid k1
 have K2 := hid k2
 have KS := hid ks
 have KB := hid kb
 clear k0 k1 k2 ks kb
 generalize ((w.alloc (.cells cs 50)).alloc (.cells #[.int .i64 2, .bool true, .bool false, .int .i64 a, .int .i64 b, .int .i64 op, .int .i64 c, .int .i64 n] 92)).alloc (.cells #[.int .i64 0, .int .u32 0, .int .u32 0] 96) = W0 at K0 K1 K2 KS KB ⊢
 obtain ⟨i0, i1, i2, i3, i4, i5, i6, i7⟩ := accCells K1.out
 go_upto_region 3 with (go_at_call 53; refine (right_yes HR.out _ (HT.out _ KB.out)).mono ?_; rintro e w1 ⟨rfl, hb1⟩; have A0 := hid (K0.out.step hb1); have A1 := hid (K1.out.step hb1); have A2 := hid (K2.out.step hb1); have AS := hid (Nat.le_trans KS.out hb1.size); have AB := hid (KB.out.trans (hb1.mono KB.out.size)); clear hb1; obtain ⟨j0, j1, j2, j3, j4, j5, j6, j7⟩ := accCells A1.out)
 clear i0 i1 i2 i3 i4 i5 i6 i7 j0 j1 j2 j3 j4 j5 j6 j7 K0 K1 K2 KS KB
 obtain ⟨rb, rb0, rb1⟩ := HC.out.rg (k := b) (by omega)
 have RB := hid rb
 obtain ⟨ra, ra0, ra1⟩ := HC.out.rg (k := a) (by omega)
 have RA := hid ra
 clear rb ra
 have J0 : Hid (Blk w1.drew w.heap.size cs 50) := A0.out
 have J1 : Hid (Blk w1.drew (w.heap.size + 1) #[.int .i64 2, .bool true, .bool false, .int .i64 a, .int .i64 b, .int .i64 op, .int .i64 c, .int .i64 n] 92) := A1.out
 have J2 : Hid (Blk w1.drew (w.heap.size + 1 + 1) #[.int .i64 0, .int .u32 0, .int .u32 0] 96) := A2.out
 have JB : Hid (Below w.heap.size w w1.drew) := belN AB.out 1
 have JS : Hid (w.heap.size + 3 ≤ w1.drew.heap.size) := AS.out
 clear A0 A1 A2 AS AB
 refine wp_region_held_drew (S := (fun w' => Hid (Blk w' w.heap.size cs 50) ∧ Hid (Blk w' (w.heap.size + 1) #[.int .i64 2, .bool true, .bool false, .int .i64 a, .int .i64 b, .int .i64 op, .int .i64 c, .int .i64 n] 92))) (by kernel_rfl) ⟨J0, J1⟩ (fun hHeld => ?_)
 clear hHeld
 generalize w1.drew = wd at J0 J1 J2 JB JS ⊢
 have hHeld : ((fun w' => Hid (Blk w' w.heap.size cs 50) ∧ Hid (Blk w' (w.heap.size + 1) #[.int .i64 2, .bool true, .bool false, .int .i64 a, .int .i64 b, .int .i64 op, .int .i64 c, .int .i64 n] 92)) wd) := ⟨J0, J1⟩
 refine tke 0 (v := ?v0_21) ?hy0_21 (by assumption) ?rest0_21
 case hy0_21 => rintro wq ⟨q0, q1⟩; have ib := (q0.out.cell b).trans RB.out; obtain ⟨i0, i1, i2, i3, i4, i5, i6, i7⟩ := accCells q1.out; clear q0 q1; have hib : (b : Int) < 16 := (by omega); have hia : (a : Int) < 16 := (by omega); go_simp; try with_reducible rfl
 refine tke 1 (v := ?v1_22) ?hy1_22 (by assumption) ?rest1_22
 case hy1_22 => rintro wq ⟨q0, q1⟩; have ib := (q0.out.cell b).trans RB.out; obtain ⟨i0, i1, i2, i3, i4, i5, i6, i7⟩ := accCells q1.out; clear q0 q1; have hib : (b : Int) < 16 := (by omega); have hia : (a : Int) < 16 := (by omega); go_simp; try with_reducible rfl
 refine tke 2 (v := ?v2_23) ?hy2_23 (by assumption) ?rest2_23
 case hy2_23 => rintro wq ⟨q0, q1⟩; have ib := (q0.out.cell b).trans RB.out; obtain ⟨i0, i1, i2, i3, i4, i5, i6, i7⟩ := accCells q1.out; clear q0 q1; have hib : (b : Int) < 16 := (by omega); have hia : (a : Int) < 16 := (by omega); go_simp; try with_reducible rfl
 refine tke 3 (v := ?v3_24) ?hy3_24 (by assumption) ?rest3_24
 case hy3_24 => rintro wq ⟨q0, q1⟩; have ib := (q0.out.cell b).trans RB.out; obtain ⟨i0, i1, i2, i3, i4, i5, i6, i7⟩ := accCells q1.out; clear q0 q1; have hib : (b : Int) < 16 := (by omega); have hia : (a : Int) < 16 := (by omega); go_simp; try with_reducible rfl
 refine tke 4 (v := ?v4_25) ?hy4_25 (by assumption) ?rest4_25
 case hy4_25 => rintro wq ⟨q0, q1⟩; have ib := (q0.out.cell b).trans RB.out; obtain ⟨i0, i1, i2, i3, i4, i5, i6, i7⟩ := accCells q1.out; clear q0 q1; have hib : (b : Int) < 16 := (by omega); have hia : (a : Int) < 16 := (by omega); go_simp; try with_reducible rfl
 refine tke 5 (v := ?v5_26) ?hy5_26 (by assumption) ?rest5_26
 case hy5_26 => rintro wq ⟨q0, q1⟩; have ib := (q0.out.cell b).trans RB.out; obtain ⟨i0, i1, i2, i3, i4, i5, i6, i7⟩ := accCells q1.out; clear q0 q1; have hib : (b : Int) < 16 := (by omega); have hia : (a : Int) < 16 := (by omega); go_simp; try with_reducible rfl
 refine tke 6 (v := ?v6_27) ?hy6_27 (by assumption) ?rest6_27
 case hy6_27 => rintro wq ⟨q0, q1⟩; have ib := (q0.out.cell b).trans RB.out; obtain ⟨i0, i1, i2, i3, i4, i5, i6, i7⟩ := accCells q1.out; clear q0 q1; have hib : (b : Int) < 16 := (by omega); have hia : (a : Int) < 16 := (by omega); go_simp; try with_reducible rfl
 refine tke 7 (v := ?v7_28) ?hy7_28 (by assumption) ?rest7_28
 case hy7_28 => rintro wq ⟨q0, q1⟩; have ib := (q0.out.cell b).trans RB.out; obtain ⟨i0, i1, i2, i3, i4, i5, i6, i7⟩ := accCells q1.out; clear q0 q1; have hib : (b : Int) < 16 := (by omega); have hia : (a : Int) < 16 := (by omega); go_simp; try with_reducible rfl
 refine tke 8 (v := ?v8_29) ?hy8_29 (by assumption) ?rest8_29
 case hy8_29 => rintro wq ⟨q0, q1⟩; have ib := (q0.out.cell b).trans RB.out; obtain ⟨i0, i1, i2, i3, i4, i5, i6, i7⟩ := accCells q1.out; clear q0 q1; have hib : (b : Int) < 16 := (by omega); have hia : (a : Int) < 16 := (by omega); go_simp; try with_reducible rfl
 refine tke 9 (v := ?v9_30) ?hy9_30 (by assumption) ?rest9_30
 case hy9_30 => rintro wq ⟨q0, q1⟩; have ib := (q0.out.cell b).trans RB.out; obtain ⟨i0, i1, i2, i3, i4, i5, i6, i7⟩ := accCells q1.out; clear q0 q1; have hib : (b : Int) < 16 := (by omega); have hia : (a : Int) < 16 := (by omega); go_simp; try with_reducible rfl
 refine wpAnyH_ready (rs := [10]) (by kernel_rfl) (by simp) ?_
 refine AllReadyH.cons (o := _) rfl (fun K hK => ?_) AllReadyH.nil
 try simp only [lA, lB, lC]
 go_simp
 have M0 := hid (J0.out.old (.cells #[.int .i64 0, .int .u32 0, .int .u32 0] 96))
 have M1 := hid (J1.out.old (.cells #[.int .i64 0, .int .u32 0, .int .u32 0] 96))
 have M2 := hid (J2.out.old (.cells #[.int .i64 0, .int .u32 0, .int .u32 0] 96))
 have MN := hid (Blk.new wd #[.int .i64 0, .int .u32 0, .int .u32 0] 96)
 have MB := hid (JB.out.alloc JB.out.size (.cells #[.int .i64 0, .int .u32 0, .int .u32 0] 96))
 refine hK.out _ _ ⟨M0, M1⟩ (fun _ => ?_)
 try simp only [lA, lB, lC]
 obtain ⟨g5, hg⟩ : ∃ g, wd.heap.size = g := ⟨_, rfl⟩
 rw [hg] at MN JS ⊢
 clear hg
 generalize wd.alloc (.cells #[.int .i64 0, .int .u32 0, .int .u32 0] 96) = wy at M0 M1 M2 MN MB ⊢
 clear J0 J1 J2 JB
 refine wpAnyH_ready (rs := [11]) (by kernel_rfl) (by simp) ?_
 refine AllReadyH.cons (o := _) rfl (fun K hK => ?_) AllReadyH.nil
 try simp only [lA, lB, lC]
 have hst := store_acc (cs := #[.int .i64 0, .int .u32 ((rgV cs b + n) % 4294967296), .int .u32 0]) MN.out rfl rfl (acc_one _ _ _)
 have hst2 := store_acc (cs := #[.int .i64 0, .int .u32 ((rgV cs b + n % 4294967296) % 4294967296), .int .u32 0]) MN.out rfl rfl (acc_one _ _ _)
 rw [Int.add_emod_emod] at hst2
 have hwr : IntKind.u32.wrap (rgV cs b + IntKind.u32.wrap n) = (rgV cs b + n) % 4294967296 := by show (rgV cs b + n % 4294967296) % 4294967296 = _; omega
 rw [hwr]
 go_simp
 have P0 := hid (M0.out.farRow (k := g5) (by have := JS.out; omega) #[.int .i64 0, .int .u32 ((rgV cs b + n) % 4294967296), .int .u32 0])
 have P1 := hid (M1.out.farRow (k := g5) (by have := JS.out; omega) #[.int .i64 0, .int .u32 ((rgV cs b + n) % 4294967296), .int .u32 0])
 have P2 := hid (M2.out.farRow (k := g5) (by have := JS.out; omega) #[.int .i64 0, .int .u32 ((rgV cs b + n) % 4294967296), .int .u32 0])
 have PN := hid (MN.out.setRow #[.int .i64 0, .int .u32 ((rgV cs b + n) % 4294967296), .int .u32 0])
 have PB := hid (belRow MB.out (g := g5) (by have := JS.out; omega) #[.int .i64 0, .int .u32 ((rgV cs b + n) % 4294967296), .int .u32 0])
 refine hK.out _ _ ⟨P0, P1⟩ (fun _ => ?_)
 try simp only [lA, lB, lC]
 clear hst hst2
 generalize wy.setRow g5 #[.int .i64 0, .int .u32 ((rgV cs b + n) % 4294967296), .int .u32 0] = W at P0 P1 P2 PN PB ⊢
 clear M0 M1 M2 MN MB
 refine wpAnyH_done (by kernel_rfl) ?_ _
 clear hHeld
 obtain ⟨i0, i1, i2, i3, i4, i5, i6, i7⟩ := accCells P1.out
 have xa := (P0.out.cell a).trans RA.out
 go_upto_region 10 with fail
 clear i0 i1 i2 i3 i4 i5 i6 i7 xa
 have J0 : Hid (Blk W.drew w.heap.size cs 50) := P0.out
 have J1 : Hid (Blk W.drew (w.heap.size + 1) #[.int .i64 2, .bool true, .bool false, .int .i64 a, .int .i64 b, .int .i64 op, .int .i64 c, .int .i64 n] 92) := P1.out
 have J2 : Hid (Blk W.drew (w.heap.size + 1 + 1) #[.int .i64 0, .int .u32 0, .int .u32 0] 96) := P2.out
 have JN : Hid (Blk W.drew g5 #[.int .i64 0, .int .u32 ((rgV cs b + n) % 4294967296), .int .u32 0] 96) := PN.out
 have JB : Hid (Below w.heap.size w W.drew) := belN PB.out 1
 clear P0 P1 P2 PN PB
 refine wp_region_held_drew (S := (fun w' => Hid (Blk w' w.heap.size cs 50) ∧ Hid (Blk w' (w.heap.size + 1) #[.int .i64 2, .bool true, .bool false, .int .i64 a, .int .i64 b, .int .i64 op, .int .i64 c, .int .i64 n] 92))) (by kernel_rfl) ⟨J0, J1⟩ (fun hHeld => ?_)
 clear hHeld
 generalize W.drew = wd at J0 J1 J2 JN JB ⊢
 have hHeld : ((fun w' => Hid (Blk w' w.heap.size cs 50) ∧ Hid (Blk w' (w.heap.size + 1) #[.int .i64 2, .bool true, .bool false, .int .i64 a, .int .i64 b, .int .i64 op, .int .i64 c, .int .i64 n] 92)) wd) := ⟨J0, J1⟩
 refine tke 0 (v := ?v0_31) ?hy0_31 (by assumption) ?rest0_31
 case hy0_31 => rintro wq ⟨q0, q1⟩; have ia := (q0.out.cell a).trans RA.out; obtain ⟨i0, i1, i2, i3, i4, i5, i6, i7⟩ := accCells q1.out; clear q0 q1; have hib : (b : Int) < 16 := (by omega); have hia : (a : Int) < 16 := (by omega); go_simp; try with_reducible rfl
 refine tke 1 (v := ?v1_32) ?hy1_32 (by assumption) ?rest1_32
 case hy1_32 => rintro wq ⟨q0, q1⟩; have ia := (q0.out.cell a).trans RA.out; obtain ⟨i0, i1, i2, i3, i4, i5, i6, i7⟩ := accCells q1.out; clear q0 q1; have hib : (b : Int) < 16 := (by omega); have hia : (a : Int) < 16 := (by omega); go_simp; try with_reducible rfl
 refine tke 2 (v := ?v2_33) ?hy2_33 (by assumption) ?rest2_33
 case hy2_33 => rintro wq ⟨q0, q1⟩; have ia := (q0.out.cell a).trans RA.out; obtain ⟨i0, i1, i2, i3, i4, i5, i6, i7⟩ := accCells q1.out; clear q0 q1; have hib : (b : Int) < 16 := (by omega); have hia : (a : Int) < 16 := (by omega); go_simp; try with_reducible rfl
 refine tke 3 (v := ?v3_34) ?hy3_34 (by assumption) ?rest3_34
 case hy3_34 => rintro wq ⟨q0, q1⟩; have ia := (q0.out.cell a).trans RA.out; obtain ⟨i0, i1, i2, i3, i4, i5, i6, i7⟩ := accCells q1.out; clear q0 q1; have hib : (b : Int) < 16 := (by omega); have hia : (a : Int) < 16 := (by omega); go_simp; try with_reducible rfl
 refine tke 4 (v := ?v4_35) ?hy4_35 (by assumption) ?rest4_35
 case hy4_35 => rintro wq ⟨q0, q1⟩; have ia := (q0.out.cell a).trans RA.out; obtain ⟨i0, i1, i2, i3, i4, i5, i6, i7⟩ := accCells q1.out; clear q0 q1; have hib : (b : Int) < 16 := (by omega); have hia : (a : Int) < 16 := (by omega); go_simp; try with_reducible rfl
 refine tke 5 (v := ?v5_36) ?hy5_36 (by assumption) ?rest5_36
 case hy5_36 => rintro wq ⟨q0, q1⟩; have ia := (q0.out.cell a).trans RA.out; obtain ⟨i0, i1, i2, i3, i4, i5, i6, i7⟩ := accCells q1.out; clear q0 q1; have hib : (b : Int) < 16 := (by omega); have hia : (a : Int) < 16 := (by omega); go_simp; try with_reducible rfl
 refine wpAnyH_ready (rs := [6]) (by kernel_rfl) (by simp) ?_
 refine AllReadyH.cons (o := _) rfl (fun K hK => ?_) AllReadyH.nil
 try simp only [lA, lB, lC]
 have y0 := JN.out.cell 0
 simp only [lD, lE, lF, lG, lH, lI] at y0
 have yf := JN.out.frozen 0
 go_simp
 have O0 := hid (J0.out.far (p := ⟨g5, 0, none⟩) (by have := JS.out; simp; omega) (.int .i64 3))
 have O1 := hid (J1.out.far (p := ⟨g5, 0, none⟩) (by have := JS.out; simp; omega) (.int .i64 3))
 have O2 := hid (J2.out.far (p := ⟨g5, 0, none⟩) (by have := JS.out; simp; omega) (.int .i64 3))
 have ON := hid (JN.out.set 0 (.int .i64 3))
 have OB := hid (JB.out.setCell (p := ⟨g5, 0, none⟩) (by have := JS.out; simp; omega) (.int .i64 3))
 refine hK.out _ _ ⟨O0, O1⟩ (fun _ => ?_)
 try simp only [lA, lB, lC]
 clear y0 yf
 refine wpAnyH_take (i := 7) (oi := _) (v := ?v7_37) rfl (by kernel_rfl) (by kernel_rfl) (by kernel_rfl) (fun _ _ _ h => h) (Or.inl ⟨by rfl, ?hy7_37⟩) ⟨O0, O1⟩ ?rest7_37
 case hy7_37 => (intro wq hSw; (try dsimp only at hSw); obtain ⟨q0, q1⟩ := hSw; have ia := (q0.out.cell a).trans RA.out; obtain ⟨i0, i1, i2, i3, i4, i5, i6, i7⟩ := accCells q1.out; clear q0 q1; have hib : (b : Int) < 16 := (by omega); have hia : (a : Int) < 16 := (by omega); simp only [lA, lB, lC]; go_simp; try with_reducible rfl)
 simp only [lA, lB, lC]
 refine wpAnyH_ready (rs := [8]) (by kernel_rfl) (by simp) ?_
 refine AllReadyH.cons (o := _) rfl (fun K hK => ?_) AllReadyH.nil
 try simp only [lA, lB, lC]
 have y2 := ON.out.cell 2
 simp only [lD, lE, lF, lG, lH, lI] at y2
 have yf := ON.out.frozen 2
 go_simp
 have Q0 := hid (O0.out.far (p := ⟨g5, 2, none⟩) (by have := JS.out; simp; omega) (.int .u32 (rgV cs a)))
 have Q1 := hid (O1.out.far (p := ⟨g5, 2, none⟩) (by have := JS.out; simp; omega) (.int .u32 (rgV cs a)))
 have Q2 := hid (O2.out.far (p := ⟨g5, 2, none⟩) (by have := JS.out; simp; omega) (.int .u32 (rgV cs a)))
 have QN := hid (ON.out.set 2 (.int .u32 (rgV cs a)))
 have QB := hid (OB.out.setCell (p := ⟨g5, 2, none⟩) (by have := JS.out; simp; omega) (.int .u32 (rgV cs a)))
 refine hK.out _ _ ⟨Q0, Q1⟩ (fun _ => ?_)
 try simp only [lA, lB, lC]
 clear y2 yf
 refine wpAnyH_done (by kernel_rfl) ?_ _
 have hl := load_acc QN.out rfl
 simp only [lG, lH, lI] at hl
 have hst := store_acc (cs := #[.int .i64 3, .int .u32 ((rgV cs b + n) % 4294967296), .int .u32 (rgV cs a)]) Q2.out rfl rfl (acc_one _ _ _)
 have hres := loadVar_acc (Q2.out.setRow #[.int .i64 3, .int .u32 ((rgV cs b + n) % 4294967296), .int .u32 (rgV cs a)]) rfl
 go_wp2_with fail
 refine bodyPost_ret (v := .agg #[.int .i64 3, .int .u32 ((rgV cs b + n) % 4294967296), .int .u32 (rgV cs a)]) ?_ rfl ⟨rfl, belRow QB.out (by omega) _⟩
 simp [results, Tryz.results36, asAddr, hres]
set_option maxRecDepth 100000 in
theorem acc_tt (cs : Array Value) (hc : CpuOk cs) (a b : Nat) (ha : a ≤ 15) (hb : b ≤ 15) (op c n : Int) (hr : rightB 2 true true a b op c n = true) (w : World) (hT : Tab w) :
 Calls Tryz.prog 36 #[.agg cs, .agg #[.int .i64 2, .bool true, .bool true, .int .i64 a, .int .i64 b, .int .i64 op, .int .i64 c, .int .i64 n]] w fun e w' => e = .returned (.agg #[.int .i64 4, .int .u32 ((rgV cs b + n) % 4294967296), .int .u32 (rgV cs a % 256)]) ∧ Below w.heap.size w w' := by
 have HR := hid hr
 clear hr
 have HC := hid hc
 have HT := tabHid hT
 clear hc hT
 go_enter Tryz.func36, Tryz.ntmps36
 go_upto_region 1 with fail
 obtain ⟨k0, k1, k2, ks, kb⟩ := three_mk w cs #[.int .i64 2, .bool true, .bool true, .int .i64 a, .int .i64 b, .int .i64 op, .int .i64 c, .int .i64 n] #[.int .i64 0, .int .u32 0, .int .u32 0] 50 92 96
 have K0 := hid k0
 have K1 := hid k1
 have K2 := hid k2
 have KS := hid ks
 have KB := hid kb
 clear k0 k1 k2 ks kb
 generalize ((w.alloc (.cells cs 50)).alloc (.cells #[.int .i64 2, .bool true, .bool true, .int .i64 a, .int .i64 b, .int .i64 op, .int .i64 c, .int .i64 n] 92)).alloc (.cells #[.int .i64 0, .int .u32 0, .int .u32 0] 96) = W0 at K0 K1 K2 KS KB ⊢
 obtain ⟨i0, i1, i2, i3, i4, i5, i6, i7⟩ := accCells K1.out
 go_upto_region 3 with (go_at_call 53; refine (right_yes HR.out _ (HT.out _ KB.out)).mono ?_; rintro e w1 ⟨rfl, hb1⟩; have A0 := hid (K0.out.step hb1); have A1 := hid (K1.out.step hb1); have A2 := hid (K2.out.step hb1); have AS := hid (Nat.le_trans KS.out hb1.size); have AB := hid (KB.out.trans (hb1.mono KB.out.size)); clear hb1; obtain ⟨j0, j1, j2, j3, j4, j5, j6, j7⟩ := accCells A1.out)
 clear i0 i1 i2 i3 i4 i5 i6 i7 j0 j1 j2 j3 j4 j5 j6 j7 K0 K1 K2 KS KB
 obtain ⟨rb, rb0, rb1⟩ := HC.out.rg (k := b) (by omega)
 have RB := hid rb
 obtain ⟨ra, ra0, ra1⟩ := HC.out.rg (k := a) (by omega)
 have RA := hid ra
 clear rb ra
 have J0 : Hid (Blk w1.drew w.heap.size cs 50) := A0.out
 have J1 : Hid (Blk w1.drew (w.heap.size + 1) #[.int .i64 2, .bool true, .bool true, .int .i64 a, .int .i64 b, .int .i64 op, .int .i64 c, .int .i64 n] 92) := A1.out
 have J2 : Hid (Blk w1.drew (w.heap.size + 1 + 1) #[.int .i64 0, .int .u32 0, .int .u32 0] 96) := A2.out
 have JB : Hid (Below w.heap.size w w1.drew) := belN AB.out 1
 have JS : Hid (w.heap.size + 3 ≤ w1.drew.heap.size) := AS.out
 clear A0 A1 A2 AS AB
 refine wp_region_held_drew (S := (fun w' => Hid (Blk w' w.heap.size cs 50) ∧ Hid (Blk w' (w.heap.size + 1) #[.int .i64 2, .bool true, .bool true, .int .i64 a, .int .i64 b, .int .i64 op, .int .i64 c, .int .i64 n] 92))) (by kernel_rfl) ⟨J0, J1⟩ (fun hHeld => ?_)
 clear hHeld
 generalize w1.drew = wd at J0 J1 J2 JB JS ⊢
 have hHeld : ((fun w' => Hid (Blk w' w.heap.size cs 50) ∧ Hid (Blk w' (w.heap.size + 1) #[.int .i64 2, .bool true, .bool true, .int .i64 a, .int .i64 b, .int .i64 op, .int .i64 c, .int .i64 n] 92)) wd) := ⟨J0, J1⟩
 refine tke 0 (v := ?v0_38) ?hy0_38 (by assumption) ?rest0_38
 case hy0_38 => rintro wq ⟨q0, q1⟩; have ib := (q0.out.cell b).trans RB.out; obtain ⟨i0, i1, i2, i3, i4, i5, i6, i7⟩ := accCells q1.out; clear q0 q1; have hib : (b : Int) < 16 := (by omega); have hia : (a : Int) < 16 := (by omega); go_simp; try with_reducible rfl
 refine tke 1 (v := ?v1_39) ?hy1_39 (by assumption) ?rest1_39
 case hy1_39 => rintro wq ⟨q0, q1⟩; have ib := (q0.out.cell b).trans RB.out; obtain ⟨i0, i1, i2, i3, i4, i5, i6, i7⟩ := accCells q1.out; clear q0 q1; have hib : (b : Int) < 16 := (by omega); have hia : (a : Int) < 16 := (by omega); go_simp; try with_reducible rfl
 refine tke 2 (v := ?v2_40) ?hy2_40 (by assumption) ?rest2_40
 case hy2_40 => rintro wq ⟨q0, q1⟩; have ib := (q0.out.cell b).trans RB.out; obtain ⟨i0, i1, i2, i3, i4, i5, i6, i7⟩ := accCells q1.out; clear q0 q1; have hib : (b : Int) < 16 := (by omega); have hia : (a : Int) < 16 := (by omega); go_simp; try with_reducible rfl
 refine tke 3 (v := ?v3_41) ?hy3_41 (by assumption) ?rest3_41
 case hy3_41 => rintro wq ⟨q0, q1⟩; have ib := (q0.out.cell b).trans RB.out; obtain ⟨i0, i1, i2, i3, i4, i5, i6, i7⟩ := accCells q1.out; clear q0 q1; have hib : (b : Int) < 16 := (by omega); have hia : (a : Int) < 16 := (by omega); go_simp; try with_reducible rfl
 refine tke 4 (v := ?v4_42) ?hy4_42 (by assumption) ?rest4_42
 case hy4_42 => rintro wq ⟨q0, q1⟩; have ib := (q0.out.cell b).trans RB.out; obtain ⟨i0, i1, i2, i3, i4, i5, i6, i7⟩ := accCells q1.out; clear q0 q1; have hib : (b : Int) < 16 := (by omega); have hia : (a : Int) < 16 := (by omega); go_simp; try with_reducible rfl
 refine tke 5 (v := ?v5_43) ?hy5_43 (by assumption) ?rest5_43
 case hy5_43 => rintro wq ⟨q0, q1⟩; have ib := (q0.out.cell b).trans RB.out; obtain ⟨i0, i1, i2, i3, i4, i5, i6, i7⟩ := accCells q1.out; clear q0 q1; have hib : (b : Int) < 16 := (by omega); have hia : (a : Int) < 16 := (by omega); go_simp; try with_reducible rfl
 refine tke 6 (v := ?v6_44) ?hy6_44 (by assumption) ?rest6_44
 case hy6_44 => rintro wq ⟨q0, q1⟩; have ib := (q0.out.cell b).trans RB.out; obtain ⟨i0, i1, i2, i3, i4, i5, i6, i7⟩ := accCells q1.out; clear q0 q1; have hib : (b : Int) < 16 := (by omega); have hia : (a : Int) < 16 := (by omega); go_simp; try with_reducible rfl
 refine tke 7 (v := ?v7_45) ?hy7_45 (by assumption) ?rest7_45
 case hy7_45 => rintro wq ⟨q0, q1⟩; have ib := (q0.out.cell b).trans RB.out; obtain ⟨i0, i1, i2, i3, i4, i5, i6, i7⟩ := accCells q1.out; clear q0 q1; have hib : (b : Int) < 16 := (by omega); have hia : (a : Int) < 16 := (by omega); go_simp; try with_reducible rfl
 refine tke 8 (v := ?v8_46) ?hy8_46 (by assumption) ?rest8_46
 case hy8_46 => rintro wq ⟨q0, q1⟩; have ib := (q0.out.cell b).trans RB.out; obtain ⟨i0, i1, i2, i3, i4, i5, i6, i7⟩ := accCells q1.out; clear q0 q1; have hib : (b : Int) < 16 := (by omega); have hia : (a : Int) < 16 := (by omega); go_simp; try with_reducible rfl
 refine tke 9 (v := ?v9_47) ?hy9_47 (by assumption) ?rest9_47
 case hy9_47 => rintro wq ⟨q0, q1⟩; have ib := (q0.out.cell b).trans RB.out; obtain ⟨i0, i1, i2, i3, i4, i5, i6, i7⟩ := accCells q1.out; clear q0 q1; have hib : (b : Int) < 16 := (by omega); have hia : (a : Int) < 16 := (by omega); go_simp; try with_reducible rfl
 refine wpAnyH_ready (rs := [10]) (by kernel_rfl) (by simp) ?_
 refine AllReadyH.cons (o := _) rfl (fun K hK => ?_) AllReadyH.nil
 try simp only [lA, lB, lC]
 go_simp
 have M0 := hid (J0.out.old (.cells #[.int .i64 0, .int .u32 0, .int .u32 0] 96))
 have M1 := hid (J1.out.old (.cells #[.int .i64 0, .int .u32 0, .int .u32 0] 96))
 have M2 := hid (J2.out.old (.cells #[.int .i64 0, .int .u32 0, .int .u32 0] 96))
 have MN := hid (Blk.new wd #[.int .i64 0, .int .u32 0, .int .u32 0] 96)
 have MB := hid (JB.out.alloc JB.out.size (.cells #[.int .i64 0, .int .u32 0, .int .u32 0] 96))
 refine hK.out _ _ ⟨M0, M1⟩ (fun _ => ?_)
 try simp only [lA, lB, lC]
 obtain ⟨g5, hg⟩ : ∃ g, wd.heap.size = g := ⟨_, rfl⟩
 rw [hg] at MN JS ⊢
 clear hg
 generalize wd.alloc (.cells #[.int .i64 0, .int .u32 0, .int .u32 0] 96) = wy at M0 M1 M2 MN MB ⊢
 clear J0 J1 J2 JB
 refine wpAnyH_ready (rs := [11]) (by kernel_rfl) (by simp) ?_
 refine AllReadyH.cons (o := _) rfl (fun K hK => ?_) AllReadyH.nil
 try simp only [lA, lB, lC]
 have hst := store_acc (cs := #[.int .i64 0, .int .u32 ((rgV cs b + n) % 4294967296), .int .u32 0]) MN.out rfl rfl (acc_one _ _ _)
 have hst2 := store_acc (cs := #[.int .i64 0, .int .u32 ((rgV cs b + n % 4294967296) % 4294967296), .int .u32 0]) MN.out rfl rfl (acc_one _ _ _)
 rw [Int.add_emod_emod] at hst2
 have hwr : IntKind.u32.wrap (rgV cs b + IntKind.u32.wrap n) = (rgV cs b + n) % 4294967296 := by show (rgV cs b + n % 4294967296) % 4294967296 = _; omega
 rw [hwr]
 go_simp
 have P0 := hid (M0.out.farRow (k := g5) (by have := JS.out; omega) #[.int .i64 0, .int .u32 ((rgV cs b + n) % 4294967296), .int .u32 0])
 have P1 := hid (M1.out.farRow (k := g5) (by have := JS.out; omega) #[.int .i64 0, .int .u32 ((rgV cs b + n) % 4294967296), .int .u32 0])
 have P2 := hid (M2.out.farRow (k := g5) (by have := JS.out; omega) #[.int .i64 0, .int .u32 ((rgV cs b + n) % 4294967296), .int .u32 0])
 have PN := hid (MN.out.setRow #[.int .i64 0, .int .u32 ((rgV cs b + n) % 4294967296), .int .u32 0])
 have PB := hid (belRow MB.out (g := g5) (by have := JS.out; omega) #[.int .i64 0, .int .u32 ((rgV cs b + n) % 4294967296), .int .u32 0])
 refine hK.out _ _ ⟨P0, P1⟩ (fun _ => ?_)
 try simp only [lA, lB, lC]
 clear hst hst2
 generalize wy.setRow g5 #[.int .i64 0, .int .u32 ((rgV cs b + n) % 4294967296), .int .u32 0] = W at P0 P1 P2 PN PB ⊢
 clear M0 M1 M2 MN MB
 refine wpAnyH_done (by kernel_rfl) ?_ _
 clear hHeld
 obtain ⟨i0, i1, i2, i3, i4, i5, i6, i7⟩ := accCells P1.out
 have xa := (P0.out.cell a).trans RA.out
 go_upto_region 4 with fail
 clear i0 i1 i2 i3 i4 i5 i6 i7 xa
 have J0 : Hid (Blk W.drew w.heap.size cs 50) := P0.out
 have J1 : Hid (Blk W.drew (w.heap.size + 1) #[.int .i64 2, .bool true, .bool true, .int .i64 a, .int .i64 b, .int .i64 op, .int .i64 c, .int .i64 n] 92) := P1.out
 have J2 : Hid (Blk W.drew (w.heap.size + 1 + 1) #[.int .i64 0, .int .u32 0, .int .u32 0] 96) := P2.out
 have JN : Hid (Blk W.drew g5 #[.int .i64 0, .int .u32 ((rgV cs b + n) % 4294967296), .int .u32 0] 96) := PN.out
 have JB : Hid (Below w.heap.size w W.drew) := belN PB.out 1
 clear P0 P1 P2 PN PB
 refine wp_region_held_drew (S := (fun w' => Hid (Blk w' w.heap.size cs 50) ∧ Hid (Blk w' (w.heap.size + 1) #[.int .i64 2, .bool true, .bool true, .int .i64 a, .int .i64 b, .int .i64 op, .int .i64 c, .int .i64 n] 92))) (by kernel_rfl) ⟨J0, J1⟩ (fun hHeld => ?_)
 clear hHeld
 generalize W.drew = wd at J0 J1 J2 JN JB ⊢
 have hHeld : ((fun w' => Hid (Blk w' w.heap.size cs 50) ∧ Hid (Blk w' (w.heap.size + 1) #[.int .i64 2, .bool true, .bool true, .int .i64 a, .int .i64 b, .int .i64 op, .int .i64 c, .int .i64 n] 92)) wd) := ⟨J0, J1⟩
 have hand := and255a (rgV cs a) ra0 ra1
 refine tke 0 (v := ?v0_48) ?hy0_48 (by assumption) ?rest0_48
 case hy0_48 => rintro wq ⟨q0, q1⟩; have ia := (q0.out.cell a).trans RA.out; obtain ⟨i0, i1, i2, i3, i4, i5, i6, i7⟩ := accCells q1.out; clear q0 q1; have hib : (b : Int) < 16 := (by omega); have hia : (a : Int) < 16 := (by omega); go_simp; try with_reducible rfl
 refine tke 1 (v := ?v1_49) ?hy1_49 (by assumption) ?rest1_49
 case hy1_49 => rintro wq ⟨q0, q1⟩; have ia := (q0.out.cell a).trans RA.out; obtain ⟨i0, i1, i2, i3, i4, i5, i6, i7⟩ := accCells q1.out; clear q0 q1; have hib : (b : Int) < 16 := (by omega); have hia : (a : Int) < 16 := (by omega); go_simp; try with_reducible rfl
 refine tke 2 (v := ?v2_50) ?hy2_50 (by assumption) ?rest2_50
 case hy2_50 => rintro wq ⟨q0, q1⟩; have ia := (q0.out.cell a).trans RA.out; obtain ⟨i0, i1, i2, i3, i4, i5, i6, i7⟩ := accCells q1.out; clear q0 q1; have hib : (b : Int) < 16 := (by omega); have hia : (a : Int) < 16 := (by omega); go_simp; try with_reducible rfl
 refine tke 3 (v := ?v3_51) ?hy3_51 (by assumption) ?rest3_51
 case hy3_51 => rintro wq ⟨q0, q1⟩; have ia := (q0.out.cell a).trans RA.out; obtain ⟨i0, i1, i2, i3, i4, i5, i6, i7⟩ := accCells q1.out; clear q0 q1; have hib : (b : Int) < 16 := (by omega); have hia : (a : Int) < 16 := (by omega); go_simp; try with_reducible rfl
 refine tke 4 (v := ?v4_52) ?hy4_52 (by assumption) ?rest4_52
 case hy4_52 => rintro wq ⟨q0, q1⟩; have ia := (q0.out.cell a).trans RA.out; obtain ⟨i0, i1, i2, i3, i4, i5, i6, i7⟩ := accCells q1.out; clear q0 q1; have hib : (b : Int) < 16 := (by omega); have hia : (a : Int) < 16 := (by omega); go_simp; try with_reducible rfl
 refine tke 5 (v := ?v5_53) ?hy5_53 (by assumption) ?rest5_53
 case hy5_53 => rintro wq ⟨q0, q1⟩; have ia := (q0.out.cell a).trans RA.out; obtain ⟨i0, i1, i2, i3, i4, i5, i6, i7⟩ := accCells q1.out; clear q0 q1; have hib : (b : Int) < 16 := (by omega); have hia : (a : Int) < 16 := (by omega); go_simp; try with_reducible rfl
 refine tke 6 (v := ?v6_54) ?hy6_54 (by assumption) ?rest6_54
 case hy6_54 => rintro wq ⟨q0, q1⟩; have ia := (q0.out.cell a).trans RA.out; obtain ⟨i0, i1, i2, i3, i4, i5, i6, i7⟩ := accCells q1.out; clear q0 q1; have hib : (b : Int) < 16 := (by omega); have hia : (a : Int) < 16 := (by omega); go_simp; try with_reducible rfl
 refine wpAnyH_ready (rs := [7]) (by kernel_rfl) (by simp) ?_
 refine AllReadyH.cons (o := _) rfl (fun K hK => ?_) AllReadyH.nil
 try simp only [lA, lB, lC]
 have y0 := JN.out.cell 0
 simp only [lD, lE, lF, lG, lH, lI] at y0
 have yf := JN.out.frozen 0
 go_simp
 have O0 := hid (J0.out.far (p := ⟨g5, 0, none⟩) (by have := JS.out; simp; omega) (.int .i64 4))
 have O1 := hid (J1.out.far (p := ⟨g5, 0, none⟩) (by have := JS.out; simp; omega) (.int .i64 4))
 have O2 := hid (J2.out.far (p := ⟨g5, 0, none⟩) (by have := JS.out; simp; omega) (.int .i64 4))
 have ON := hid (JN.out.set 0 (.int .i64 4))
 have OB := hid (JB.out.setCell (p := ⟨g5, 0, none⟩) (by have := JS.out; simp; omega) (.int .i64 4))
 refine hK.out _ _ ⟨O0, O1⟩ (fun _ => ?_)
 try simp only [lA, lB, lC]
 clear y0 yf
 refine wpAnyH_take (i := 8) (oi := _) (v := ?v8_55) rfl (by kernel_rfl) (by kernel_rfl) (by kernel_rfl) (fun _ _ _ h => h) (Or.inl ⟨by rfl, ?hy8_55⟩) ⟨O0, O1⟩ ?rest8_55
 case hy8_55 => (intro wq hSw; (try dsimp only at hSw); obtain ⟨q0, q1⟩ := hSw; have ia := (q0.out.cell a).trans RA.out; obtain ⟨i0, i1, i2, i3, i4, i5, i6, i7⟩ := accCells q1.out; clear q0 q1; have hib : (b : Int) < 16 := (by omega); have hia : (a : Int) < 16 := (by omega); simp only [lA, lB, lC]; go_simp; try with_reducible rfl)
 simp only [lA, lB, lC]
 refine wpAnyH_ready (rs := [9]) (by kernel_rfl) (by simp) ?_
 refine AllReadyH.cons (o := _) rfl (fun K hK => ?_) AllReadyH.nil
 try simp only [lA, lB, lC]
 have y2 := ON.out.cell 2
 simp only [lD, lE, lF, lG, lH, lI] at y2
 have yf := ON.out.frozen 2
 go_simp
 have Q0 := hid (O0.out.far (p := ⟨g5, 2, none⟩) (by have := JS.out; simp; omega) (.int .u32 (rgV cs a % 256)))
 have Q1 := hid (O1.out.far (p := ⟨g5, 2, none⟩) (by have := JS.out; simp; omega) (.int .u32 (rgV cs a % 256)))
 have Q2 := hid (O2.out.far (p := ⟨g5, 2, none⟩) (by have := JS.out; simp; omega) (.int .u32 (rgV cs a % 256)))
 have QN := hid (ON.out.set 2 (.int .u32 (rgV cs a % 256)))
 have QB := hid (OB.out.setCell (p := ⟨g5, 2, none⟩) (by have := JS.out; simp; omega) (.int .u32 (rgV cs a % 256)))
 refine hK.out _ _ ⟨Q0, Q1⟩ (fun _ => ?_)
 try simp only [lA, lB, lC]
 clear y2 yf
 refine wpAnyH_done (by kernel_rfl) ?_ _
 have hl := load_acc QN.out rfl
 simp only [lG, lH, lI] at hl
 have hst := store_acc (cs := #[.int .i64 4, .int .u32 ((rgV cs b + n) % 4294967296), .int .u32 (rgV cs a % 256)]) Q2.out rfl rfl (acc_one _ _ _)
 have hres := loadVar_acc (Q2.out.setRow #[.int .i64 4, .int .u32 ((rgV cs b + n) % 4294967296), .int .u32 (rgV cs a % 256)]) rfl
 go_wp2_with fail
 refine bodyPost_ret (v := .agg #[.int .i64 4, .int .u32 ((rgV cs b + n) % 4294967296), .int .u32 (rgV cs a % 256)]) ?_ rfl ⟨rfl, belRow QB.out (by omega) _⟩
 simp [results, Tryz.results36, asAddr, hres]
theorem acc_any (cs : Array Value) (hc : CpuOk cs) (f : Int) (u v : Bool) (a b op c n : Int) (w : World) (hT : Tab w) :
 Calls Tryz.prog 36 #[.agg cs, .agg #[.int .i64 f, .bool u, .bool v, .int .i64 a, .int .i64 b, .int .i64 op, .int .i64 c, .int .i64 n]] w fun e w' => e = .returned (.agg (accR cs f u v a b op c n)) ∧ Below w.heap.size w w' := by
 by_cases hf : f = 2
 ·cases hr : rightB f u v a b op c n
  ·rw [accR_no (by rw [hr]; simp)]
   subst hf
   exact acc_bad cs hc u v a b op c n hr w hT
  ·obtain ⟨ha, hb, _⟩ := right_inv hr
   obtain ⟨a, rfl⟩ := Int.eq_ofNat_of_zero_le ha.1
   obtain ⟨b, rfl⟩ := Int.eq_ofNat_of_zero_le hb.1
   subst hf
   unfold accR
   rw [hr]
   cases u <;> cases v
   ·exact acc_ff cs hc a b (by omega) (by omega) op c n hr w hT
   ·exact acc_ft cs hc a b (by omega) (by omega) op c n hr w hT
   ·exact acc_tf cs hc a b (by omega) (by omega) op c n hr w hT
   ·exact acc_tt cs hc a b (by omega) (by omega) op c n hr w hT
 ·rw [accR_no (fun q => hf q.1)]
  exact acc_far cs hc f u v a b op c n hf w hT
end Go.Proofs.YtgcknekhimpfkaaGreatDoor
