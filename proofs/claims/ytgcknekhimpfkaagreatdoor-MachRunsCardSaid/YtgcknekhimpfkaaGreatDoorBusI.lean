/- An access to a bus. -/
import Derived.Test.YtgcknekhimpfkaaGreatDoorBusH
namespace Go.Proofs.YtgcknekhimpfkaaGreatDoor
open Go Go.RowKit Go.Lib Go.Proofs.YtgcknekhimpfkaaGreatDoor.Pl
open List renaming getElem?_toArray → lD, getElem?_cons_zero → lE, getElem?_cons_succ → lF
set_option maxHeartbeats 1000000
set_option linter.unusedVariables false
set_option linter.unusedSimpArgs false
attribute [local go_sem ↓] exec_load_dev exec_store_dev
theorem store_new_dev (w : World) (Z cs : Array Value) (t : TypeId) (ho : Z.size = 2) (hs : cs.size = 2) (h1 : OneRow cs) : (storeWhole 125 (.pointer (some ⟨w.heap.size, 0, none⟩)) (.agg cs)).run Tryz.prog (w.alloc (.cells Z t)) = .ok () (w.alloc (.cells cs t)) := by
 have := store_dev (Blk.new w Z t) ho hs h1
 rwa [alloc_setRow] at this
section
variable {w : World} {base : Nat} {v : BV} {x : BS}
theorem BusAt.setByte (B : BusAt w base v x) (n : Nat) (y : Int) (hy : 0 ≤ y ∧ y ≤ 255) : BusAt (w.setCell ⟨v.m, n, none⟩ (.int .u8 y)) base v { x with M := setB x.M n y } ∧ Moves w (w.setCell ⟨v.m, n, none⟩ (.int .u8 y)) v v := by
 refine ⟨B.setM (Touch.set _ ⟨v.m, n, none⟩ _) (B.mem.set n y) (fun i => ?_), (Touch.set _ ⟨v.m, n, none⟩ _).mono (by simp [mem_m]), fun g h => .inl h, ⟨rfl, rfl, rfl, rfl⟩⟩
 unfold setB
 split
 ·exact hy
 ·exact B.mb i
theorem BusAt.moves (B : BusAt w base v x) {w' : World} (h : Below w.heap.size w w') : BusAt w' base v x ∧ Moves w w' v v := ⟨B.below h, Moves.of_below v h⟩
set_option maxRecDepth 20000 in
theorem bdo_no (B : BusAt w base v x) (a y : Int) (a0 : 0 ≤ a) (a1 : a < 4294967296) (y0 : 0 ≤ y) (y1 : y < 4294967296)  :
 Calls Tryz.prog 37 #[.pointer (some ⟨v.b, 0, none⟩), .agg #[.int .i64 0, .int .u32 a, .int .u32 y]] w fun e w' => e = .returned (.tuple #[.int .u32 0, .int .i64 0]) ∧ ∃ v', BusAt w' base v' x ∧ Moves w w' v v' := by
 have hmf := hmf_all
 go_enter Tryz.func37, Tryz.ntmps37
 go_upto_region 1 with fail
 have k0 := Blk.new w #[.int .i64 0, .int .u32 a, .int .u32 y] 96
 have kb : Below w.heap.size w (w.alloc (.cells #[.int .i64 0, .int .u32 a, .int .u32 y] 96)) := (Below.refl _ _).alloc (Nat.le_refl _) _
 have kl : w.heap.size < (w.alloc (.cells #[.int .i64 0, .int .u32 a, .int .u32 y] 96)).heap.size := by simp
 have B1 := B.below kb
 generalize w.alloc (.cells #[.int .i64 0, .int .u32 a, .int .u32 y] 96) = W at k0 kb kl B1 ⊢
 have e0 := k0.cell 0
 have e1 := k0.cell 1
 have e2 := k0.cell 2
 simp only [lD, lE, lF] at e0 e1 e2
 have KB := hid kb
 have K0 := hid k0
 have HB1 := hid B1
 clear kb k0 B1
 go_wp2_with fail
 go_ret2
 exact ⟨rfl, v, B.moves KB.out⟩
set_option maxRecDepth 20000 in
theorem bdo_lb (B : BusAt w base v x) (a y : Int) (a0 : 0 ≤ a) (a1 : a < 4294967296) (y0 : 0 ≤ y) (y1 : y < 4294967296) (hm : a < 1048576) :
 Calls Tryz.prog 37 #[.pointer (some ⟨v.b, 0, none⟩), .agg #[.int .i64 2, .int .u32 a, .int .u32 y]] w fun e w' => e = .returned (.tuple #[.int .u32 (x.M a.toNat), .int .i64 0]) ∧ ∃ v', BusAt w' base v' x ∧ Moves w w' v v' := by
 have hmf := hmf_all
 go_enter Tryz.func37, Tryz.ntmps37
 go_upto_region 1 with fail
 have k0 := Blk.new w #[.int .i64 2, .int .u32 a, .int .u32 y] 96
 have kb : Below w.heap.size w (w.alloc (.cells #[.int .i64 2, .int .u32 a, .int .u32 y] 96)) := (Below.refl _ _).alloc (Nat.le_refl _) _
 have kl : w.heap.size < (w.alloc (.cells #[.int .i64 2, .int .u32 a, .int .u32 y] 96)).heap.size := by simp
 have B1 := B.below kb
 generalize w.alloc (.cells #[.int .i64 2, .int .u32 a, .int .u32 y] 96) = W at k0 kb kl B1 ⊢
 have e0 := k0.cell 0
 have e1 := k0.cell 1
 have e2 := k0.cell 2
 simp only [lD, lE, lF] at e0 e1 e2
 have KB := hid kb
 have K0 := hid k0
 have HB1 := hid B1
 clear kb k0 B1
 obtain ⟨n, rfl⟩ := Int.eq_ofNat_of_zero_le a0
 have c0 := HB1.out.cells.1
 have cm := HB1.out.mem.cell (i := n) (by omega)
 have b0 := (B.mb n).1
 have b1 := (B.mb n).2
 go_upto_region 7 with fail
 go_quiet (fail)
 go_wp2_with fail
 go_ret2
 exact ⟨rfl, v, B.moves (KB.out.trans ⟨rfl, rfl, rfl, Nat.le_refl _, fun _ _ => rfl⟩)⟩
set_option maxRecDepth 20000 in
theorem bdo_lwyes (B : BusAt w base v x) (a y : Int) (a0 : 0 ≤ a) (a1 : a < 4294967296) (y0 : 0 ≤ y) (y1 : y < 4294967296) (hm : a < 1048576) (h4 : a % 4 = 0) :
 Calls Tryz.prog 37 #[.pointer (some ⟨v.b, 0, none⟩), .agg #[.int .i64 1, .int .u32 a, .int .u32 y]] w fun e w' => e = .returned (.tuple #[.int .u32 (getV x.M a.toNat), .int .i64 0]) ∧ ∃ v', BusAt w' base v' x ∧ Moves w w' v v' := by
 have hmf := hmf_all
 go_enter Tryz.func37, Tryz.ntmps37
 go_upto_region 1 with fail
 have k0 := Blk.new w #[.int .i64 1, .int .u32 a, .int .u32 y] 96
 have kb : Below w.heap.size w (w.alloc (.cells #[.int .i64 1, .int .u32 a, .int .u32 y] 96)) := (Below.refl _ _).alloc (Nat.le_refl _) _
 have kl : w.heap.size < (w.alloc (.cells #[.int .i64 1, .int .u32 a, .int .u32 y] 96)).heap.size := by simp
 have B1 := B.below kb
 generalize w.alloc (.cells #[.int .i64 1, .int .u32 a, .int .u32 y] 96) = W at k0 kb kl B1 ⊢
 have e0 := k0.cell 0
 have e1 := k0.cell 1
 have e2 := k0.cell 2
 simp only [lD, lE, lF] at e0 e1 e2
 have KB := hid kb
 have K0 := hid k0
 have HB1 := hid B1
 clear kb k0 B1
 go_wp2_with (go_at_call 34; refine (bword_yes HB1.out a a0 hm h4).mono ?_; rintro e w1 ⟨rfl, rfl⟩)
 go_ret2
 exact ⟨rfl, v, B.moves KB.out⟩
set_option maxRecDepth 20000 in
theorem bdo_lwno (B : BusAt w base v x) (a y : Int) (a0 : 0 ≤ a) (a1 : a < 4294967296) (y0 : 0 ≤ y) (y1 : y < 4294967296) (hm : a < 1048576) (h4 : ¬ a % 4 = 0) :
 Calls Tryz.prog 37 #[.pointer (some ⟨v.b, 0, none⟩), .agg #[.int .i64 1, .int .u32 a, .int .u32 y]] w fun e w' => e = .returned (.tuple #[.int .u32 0, .int .i64 1]) ∧ ∃ v', BusAt w' base v' x ∧ Moves w w' v v' := by
 have hmf := hmf_all
 have H4 := hid h4
 clear h4
 go_enter Tryz.func37, Tryz.ntmps37
 go_upto_region 1 with fail
 have k0 := Blk.new w #[.int .i64 1, .int .u32 a, .int .u32 y] 96
 have kb : Below w.heap.size w (w.alloc (.cells #[.int .i64 1, .int .u32 a, .int .u32 y] 96)) := (Below.refl _ _).alloc (Nat.le_refl _) _
 have kl : w.heap.size < (w.alloc (.cells #[.int .i64 1, .int .u32 a, .int .u32 y] 96)).heap.size := by simp
 have B1 := B.below kb
 generalize w.alloc (.cells #[.int .i64 1, .int .u32 a, .int .u32 y] 96) = W at k0 kb kl B1 ⊢
 have e0 := k0.cell 0
 have e1 := k0.cell 1
 have e2 := k0.cell 2
 simp only [lD, lE, lF] at e0 e1 e2
 have KB := hid kb
 have K0 := hid k0
 have HB1 := hid B1
 clear kb k0 B1
 go_wp2_with (go_at_call 34; refine (bword_no HB1.out a a0 a1 (fun h => H4.out h.2)).mono ?_; rintro e w1 ⟨rfl, rfl⟩)
 go_ret2
 exact ⟨rfl, v, B.moves KB.out⟩
set_option maxRecDepth 20000 in
theorem bdo_swyes (B : BusAt w base v x) (a y : Int) (a0 : 0 ≤ a) (a1 : a < 4294967296) (y0 : 0 ≤ y) (y1 : y < 4294967296) (hm : a < 1048576) (h4 : a % 4 = 0) :
 Calls Tryz.prog 37 #[.pointer (some ⟨v.b, 0, none⟩), .agg #[.int .i64 3, .int .u32 a, .int .u32 y]] w fun e w' => e = .returned (.tuple #[.int .u32 0, .int .i64 0]) ∧ ∃ v', BusAt w' base v' { x with M := laid4 x.M a.toNat y } ∧ Moves w w' v v' := by
 have hmf := hmf_all
 go_enter Tryz.func37, Tryz.ntmps37
 go_upto_region 1 with fail
 have k0 := Blk.new w #[.int .i64 3, .int .u32 a, .int .u32 y] 96
 have kb : Below w.heap.size w (w.alloc (.cells #[.int .i64 3, .int .u32 a, .int .u32 y] 96)) := (Below.refl _ _).alloc (Nat.le_refl _) _
 have kl : w.heap.size < (w.alloc (.cells #[.int .i64 3, .int .u32 a, .int .u32 y] 96)).heap.size := by simp
 have B1 := B.below kb
 generalize w.alloc (.cells #[.int .i64 3, .int .u32 a, .int .u32 y] 96) = W at k0 kb kl B1 ⊢
 have e0 := k0.cell 0
 have e1 := k0.cell 1
 have e2 := k0.cell 2
 simp only [lD, lE, lF] at e0 e1 e2
 have KB := hid kb
 have K0 := hid k0
 have HB1 := hid B1
 clear kb k0 B1
 go_wp2_with (go_at_call 54; refine (bpoke_yes HB1.out a y a0 hm h4 y0 y1).mono ?_; rintro e w1 ⟨rfl, B2, M2⟩)
 go_ret2
 exact ⟨rfl, v, B2, (Moves.of_below v KB.out).trans M2⟩
set_option maxRecDepth 20000 in
theorem bdo_swno (B : BusAt w base v x) (a y : Int) (a0 : 0 ≤ a) (a1 : a < 4294967296) (y0 : 0 ≤ y) (y1 : y < 4294967296) (hm : a < 1048576) (h4 : ¬ a % 4 = 0) :
 Calls Tryz.prog 37 #[.pointer (some ⟨v.b, 0, none⟩), .agg #[.int .i64 3, .int .u32 a, .int .u32 y]] w fun e w' => e = .returned (.tuple #[.int .u32 0, .int .i64 1]) ∧ ∃ v', BusAt w' base v' x ∧ Moves w w' v v' := by
 have hmf := hmf_all
 have H4 := hid h4
 clear h4
 go_enter Tryz.func37, Tryz.ntmps37
 go_upto_region 1 with fail
 have k0 := Blk.new w #[.int .i64 3, .int .u32 a, .int .u32 y] 96
 have kb : Below w.heap.size w (w.alloc (.cells #[.int .i64 3, .int .u32 a, .int .u32 y] 96)) := (Below.refl _ _).alloc (Nat.le_refl _) _
 have kl : w.heap.size < (w.alloc (.cells #[.int .i64 3, .int .u32 a, .int .u32 y] 96)).heap.size := by simp
 have B1 := B.below kb
 generalize w.alloc (.cells #[.int .i64 3, .int .u32 a, .int .u32 y] 96) = W at k0 kb kl B1 ⊢
 have e0 := k0.cell 0
 have e1 := k0.cell 1
 have e2 := k0.cell 2
 simp only [lD, lE, lF] at e0 e1 e2
 have KB := hid kb
 have K0 := hid k0
 have HB1 := hid B1
 clear kb k0 B1
 go_wp2_with (go_at_call 54; refine (bpoke_no HB1.out a y a0 a1 (fun h => H4.out h.2)).mono ?_; rintro e w1 ⟨rfl, rfl⟩)
 go_ret2
 exact ⟨rfl, v, B.moves KB.out⟩
set_option maxRecDepth 20000 in
theorem bdo_sb (B : BusAt w base v x) (a y : Int) (a0 : 0 ≤ a) (a1 : a < 4294967296) (y0 : 0 ≤ y) (y1 : y < 4294967296) (hm : a < 1048576) :
 Calls Tryz.prog 37 #[.pointer (some ⟨v.b, 0, none⟩), .agg #[.int .i64 4, .int .u32 a, .int .u32 y]] w fun e w' => e = .returned (.tuple #[.int .u32 0, .int .i64 0]) ∧ ∃ v', BusAt w' base v' { x with M := setB x.M a.toNat (y % 256) } ∧ Moves w w' v v' := by
 have hmf := hmf_all
 go_enter Tryz.func37, Tryz.ntmps37
 go_upto_region 1 with fail
 have k0 := Blk.new w #[.int .i64 4, .int .u32 a, .int .u32 y] 96
 have kb : Below w.heap.size w (w.alloc (.cells #[.int .i64 4, .int .u32 a, .int .u32 y] 96)) := (Below.refl _ _).alloc (Nat.le_refl _) _
 have kl : w.heap.size < (w.alloc (.cells #[.int .i64 4, .int .u32 a, .int .u32 y] 96)).heap.size := by simp
 have B1 := B.below kb
 generalize w.alloc (.cells #[.int .i64 4, .int .u32 a, .int .u32 y] 96) = W at k0 kb kl B1 ⊢
 have e0 := k0.cell 0
 have e1 := k0.cell 1
 have e2 := k0.cell 2
 simp only [lD, lE, lF] at e0 e1 e2
 have KB := hid kb
 have K0 := hid k0
 have HB1 := hid B1
 clear kb k0 B1
 obtain ⟨n, rfl⟩ := Int.eq_ofNat_of_zero_le a0
 have HL := hid kl
 clear e0 e1 e2 kl
 have e0 := K0.out.cell 0
 have e1 := K0.out.cell 1
 simp only [lD, lE, lF] at e0 e1
 go_upto_region 9 with fail
 have hnm : n < 1048576 := by omega
 have JB : Hid (W.heap.size ≤ W.drew.heap.size) := hid (Nat.le_refl _)
 have J0 : Hid (Blk W.drew w.heap.size #[.int .i64 4, .int .u32 (n : Int), .int .u32 y] 96) := hid (K0.out)
 have Jx : Hid (∃ x', BusAt W.drew base v x') := hid (⟨x, HB1.out.drew 1⟩)
 have Kx := hid (show BusAt W.drew base v x from HB1.out.drew 1)
 have KM := hid (show Moves W W.drew v v from Moves.of_below v (Below.refl _ _).drew)
 refine wp_region_held_drew (S := (fun w' => Hid (W.heap.size ≤ w'.heap.size) ∧ Hid (Blk w' w.heap.size #[.int .i64 4, .int .u32 (n : Int), .int .u32 y] 96) ∧ Hid (∃ x', BusAt w' base v x'))) (by kernel_rfl) ⟨JB, J0, Jx⟩ (fun hHeld => ?_)
 clear hHeld
 generalize W.drew = wd at JB J0 Jx Kx KM ⊢
 have hHeld : ((fun w' => Hid (W.heap.size ≤ w'.heap.size) ∧ Hid (Blk w' w.heap.size #[.int .i64 4, .int .u32 (n : Int), .int .u32 y] 96) ∧ Hid (∃ x', BusAt w' base v x')) wd) := ⟨JB, J0, Jx⟩
 refine tke 0 (v := ?v0_1) ?hy0_1 (by assumption) ?rest0_1
 case hy0_1 => rintro wq ⟨qB, q0, qx⟩; have z0 := q0.out.cell 1; have z2 := q0.out.cell 2; obtain ⟨x', bx⟩ := qx.out; have zc := bx.cells.1; simp only [lD, lE, lF] at z0 z2; have zm := bx.mem.cell (i := n) (by omega); clear bx; clear qB q0 qx; go_simp; try with_reducible rfl
 refine tke 1 (v := ?v1_2) ?hy1_2 (by assumption) ?rest1_2
 case hy1_2 => rintro wq ⟨qB, q0, qx⟩; have z0 := q0.out.cell 1; have z2 := q0.out.cell 2; obtain ⟨x', bx⟩ := qx.out; have zc := bx.cells.1; simp only [lD, lE, lF] at z0 z2; have zm := bx.mem.cell (i := n) (by omega); clear bx; clear qB q0 qx; go_simp; try with_reducible rfl
 refine tke 2 (v := ?v2_3) ?hy2_3 (by assumption) ?rest2_3
 case hy2_3 => rintro wq ⟨qB, q0, qx⟩; have z0 := q0.out.cell 1; have z2 := q0.out.cell 2; obtain ⟨x', bx⟩ := qx.out; have zc := bx.cells.1; simp only [lD, lE, lF] at z0 z2; have zm := bx.mem.cell (i := n) (by omega); clear bx; clear qB q0 qx; go_simp; try with_reducible rfl
 refine tke 3 (v := ?v3_4) ?hy3_4 (by assumption) ?rest3_4
 case hy3_4 => rintro wq ⟨qB, q0, qx⟩; have z0 := q0.out.cell 1; have z2 := q0.out.cell 2; obtain ⟨x', bx⟩ := qx.out; have zc := bx.cells.1; simp only [lD, lE, lF] at z0 z2; have zm := bx.mem.cell (i := n) (by omega); clear bx; clear qB q0 qx; go_simp; try with_reducible rfl
 refine tke 4 (v := ?v4_5) ?hy4_5 (by assumption) ?rest4_5
 case hy4_5 => rintro wq ⟨qB, q0, qx⟩; have z0 := q0.out.cell 1; have z2 := q0.out.cell 2; obtain ⟨x', bx⟩ := qx.out; have zc := bx.cells.1; simp only [lD, lE, lF] at z0 z2; have zm := bx.mem.cell (i := n) (by omega); clear bx; clear qB q0 qx; go_simp; try with_reducible rfl
 refine tke 5 (v := ?v5_6) ?hy5_6 (by assumption) ?rest5_6
 case hy5_6 => rintro wq ⟨qB, q0, qx⟩; have z0 := q0.out.cell 1; have z2 := q0.out.cell 2; obtain ⟨x', bx⟩ := qx.out; have zc := bx.cells.1; simp only [lD, lE, lF] at z0 z2; have zm := bx.mem.cell (i := n) (by omega); clear bx; clear qB q0 qx; go_simp; try with_reducible rfl
 refine tke 6 (v := ?v6_7) ?hy6_7 (by assumption) ?rest6_7
 case hy6_7 => rintro wq ⟨qB, q0, qx⟩; have z0 := q0.out.cell 1; have z2 := q0.out.cell 2; obtain ⟨x', bx⟩ := qx.out; have zc := bx.cells.1; simp only [lD, lE, lF] at z0 z2; have zm := bx.mem.cell (i := n) (by omega); clear bx; clear qB q0 qx; go_simp; try with_reducible rfl
 refine tke 7 (v := ?v7_8) ?hy7_8 (by assumption) ?rest7_8
 case hy7_8 => rintro wq ⟨qB, q0, qx⟩; have z0 := q0.out.cell 1; have z2 := q0.out.cell 2; obtain ⟨x', bx⟩ := qx.out; have zc := bx.cells.1; simp only [lD, lE, lF] at z0 z2; have zm := bx.mem.cell (i := n) (by omega); clear bx; clear qB q0 qx; go_simp; try with_reducible rfl
 refine tke 8 (v := ?v8_9) ?hy8_9 (by assumption) ?rest8_9
 case hy8_9 => rintro wq ⟨qB, q0, qx⟩; have z0 := q0.out.cell 1; have z2 := q0.out.cell 2; obtain ⟨x', bx⟩ := qx.out; have zc := bx.cells.1; simp only [lD, lE, lF] at z0 z2; have zm := bx.mem.cell (i := n) (by omega); clear bx; clear qB q0 qx; go_simp; try with_reducible rfl
 refine tke 9 (v := ?v9_10) ?hy9_10 (by assumption) ?rest9_10
 case hy9_10 => rintro wq ⟨qB, q0, qx⟩; have z0 := q0.out.cell 1; have z2 := q0.out.cell 2; obtain ⟨x', bx⟩ := qx.out; have zc := bx.cells.1; simp only [lD, lE, lF] at z0 z2; have zm := bx.mem.cell (i := n) (by omega); clear bx; clear qB q0 qx; go_simp; try with_reducible rfl
 have cm := Kx.out.mem.cell hnm
 have fm := Kx.out.mem.frozen n
 refine wpAnyH_ready (rs := [10]) (by kernel_rfl) (by simp) ?_
 refine (AllReadyH.cons (o := _) rfl (fun K hK => ?_) AllReadyH.nil)
 try simp only [List.getElem_toArray, List.getElem_cons_zero, List.getElem_cons_succ]
 go_simp
 obtain ⟨B3, M3⟩ := Kx.out.setByte n (y % 256) ⟨by omega, by omega⟩
 refine hK.out _ _ ⟨hid (by have := JB.out; simp; exact this), hid (J0.out.far (by simp only; intro e; have := (B.lt v.m (mem_m v)).2; omega) _), hid ⟨_, B3⟩⟩ (fun _ => ?_)
 try simp only [List.getElem_toArray, List.getElem_cons_zero, List.getElem_cons_succ]
 refine wpAnyH_done (by kernel_rfl) ?_ _
 clear hHeld
 go_wp2_with fail
 go_ret2
 exact ⟨rfl, v, B3, ((Moves.of_below v KB.out).trans KM.out).trans M3⟩
end
end Go.Proofs.YtgcknekhimpfkaaGreatDoor
