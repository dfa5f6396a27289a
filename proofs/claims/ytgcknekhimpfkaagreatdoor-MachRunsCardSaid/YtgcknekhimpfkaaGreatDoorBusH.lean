/- A sector is read into memory, a sector is written. -/
import Derived.Test.YtgcknekhimpfkaaGreatDoorBusG
namespace Go.Proofs.YtgcknekhimpfkaaGreatDoor
open Go Go.RowKit Go.Lib Go.Proofs.YtgcknekhimpfkaaGreatDoor.Pl
open List renaming getElem_toArray → lA, getElem_cons_zero → lB, getElem_cons_succ → lC
set_option maxHeartbeats 1000000
set_option linter.unusedVariables false
set_option linter.unusedSimpArgs false
theorem u8_one : (Tryz.prog.info? 5).map (·.size) = some 1 := by kernel_rfl
section
variable {w : World} {base : Nat} {v : BV} {x : BS}
theorem BusAt.lay (B : BusAt w base v x) (a n : Nat) (s : ByteArray) (hs : s.size = n) : BusAt (w.setCells v.m a (strCells s)) base v { x with M := laidS x.M a n s } ∧ Moves w (w.setCells v.m a (strCells s)) v v := by
 have hl : s.data.toList.length = n := by rw [Array.length_toList]; exact hs
 refine ⟨B.setM (Touch.setCells _ _ _ _) ((own_setCells s.data.toList w a x.M B.mem).congr fun i _ => ?_) (fun i => ?_), (Touch.setCells _ _ _ _).mono (by simp [mem_m]), fun g h => .inl h, ⟨rfl, rfl, rfl, rfl⟩⟩
 ·unfold laidS byteAt
  rw [hl]
 ·unfold laidS
  split
  ·exact byteAt_bd _ _
  ·exact B.mb i
theorem bwrite_worn {d s : Nat} {u : Value} {N : Nat} {sec : Nat → ByteArray} {ws : List (Nat × ByteArray)} (D : DiskAt w base d s u N sec ws) (n : Nat) (hn : n < N) (few : ¬ ws.length < 4096) (a : Option Addr) (c : Nat) :
 Calls Tryz.prog 98 #[.pointer (some ⟨d, 0, none⟩), .int .i64 (n : Int), .slice a 1024 c] w fun e w' => e = .returned (.int .i64 33) ∧ w = w' := by
 have ge := D.ge
 refine (write_no D n (by omega) a 1024 c (by decide) (fun h => few h.2.2)).mono ?_
 rintro e w' ⟨rfl, rfl⟩
 exact ⟨by rw [if_pos ⟨by omega, by omega⟩, if_pos rfl], rfl⟩
theorem BusAt.there (B : BusAt w base v x) (a n : Nat) (h : a + n ≤ 1048576) : w.there v.m a n := fun j hj => by
 rw [B.mem.cell (i := a + j) (by omega)]
 exact ⟨rfl, B.mem.frozen _⟩
set_option maxRecDepth 100000 in
theorem bcmd_read (B : BusAt w base v x) (n : Nat) (hn : x.se = n) (a : Nat) (ha : x.ad = a) (h : x.ad % 4 = 0) (hh : x.ad ≤ 1047552) (hs : x.se < (x.N : Int)) :
 Calls Tryz.prog 78 #[.pointer (some ⟨v.b, 0, none⟩), .int .u32 1] w fun e w' => e = .returned (.tuple #[]) ∧ BusAt w' base v { x with fl := 0, M := laidS x.M a 1024 (x.sec n) } ∧ Moves w w' v v := by
 have hn2 : n < x.N := by omega
 have ha2 : a + 1024 ≤ 1048576 := by omega
 have HN := hid hn
 have HA := hid ha
 have HN2 := hid hn2
 have HA2 := hid ha2
 clear hn ha hn2 ha2
 obtain ⟨-, -, -, -, -, -, -, c7⟩ := B.cells
 have f7 := B.row.frozen 7
 obtain ⟨B1, M1⟩ := B.setFl 1 (by omega)
 go_enter Tryz.func78, Tryz.ntmps78
 go_upto_region 1 with fail
 generalize w.setCell ⟨v.b, 7, none⟩ (.int .u32 1) = W at B1 M1 ⊢
 clear c7 f7
 obtain ⟨c0, c1, c2, c3, c4, c5, c6, c7⟩ := B1.cells
 clear c2 c3 c4
 have f7 := B1.row.frozen 7
 have a0 := B.adb.1
 have a1 := B.adb.2
 have s0 := B.seb.1
 have s1 := B.seb.2
 have n0 := B.disk.ge
 have n1 : (0 : Int) ≤ x.N := by omega
 have n2 : (x.N : Int) < 4294967296 := by omega
 have hh1 : decide (1047552 < x.ad) = false := decide_eq_false (by omega)
 have hs1 : decide ((x.N : Int) ≤ x.se) = false := decide_eq_false (by omega)
 have hw : (x.ad + 1024) % 4294967296 = x.ad + 1024 := by omega
 go_quiet (first | (go_at_call 79; exact Calls.quiet_of_same (sectors_quiet B1 _)))
 revert nq
 intro k1
 go_upto_region 2 with fail
 go_quiet (fail)
 go_upto_region 5 with fail
 have B2 := B1.drew (k1 + nq)
 have M2 : Moves w (W.drewN (k1 + nq)) v v := M1.trans (Moves.of_below v ⟨rfl, rfl, rfl, Nat.le_refl _, fun _ _ => rfl⟩)
 generalize W.drewN (k1 + nq) = V at B2 M2 ⊢
 clear B1 M1 c0 c1 c5 c6 c7 f7
 have hwn : IntKind.i64.wrap (n : Int) = (n : Int) := IntWalk.i64_in _ (by have := HN2.out; omega)
 have JB : Hid (Below V.heap.size V V.drew) := hid ((Below.refl _ _).drew)
 have Jx : Hid (BusAt V.drew base v { x with fl := 1 }) := hid (B2.drew 1)
 refine wp_region_held_drew (S := (fun w' => Hid (Below V.heap.size V w') ∧ Hid (BusAt w' base v { x with fl := 1 }))) (by kernel_rfl) ⟨JB, Jx⟩ (fun hHeld => ?_)
 clear hHeld
 generalize V.drew = wd at JB Jx ⊢
 have hHeld : ((fun w' => Hid (Below V.heap.size V w') ∧ Hid (BusAt w' base v { x with fl := 1 })) wd) := ⟨JB, Jx⟩
 refine tke 0 (v := ?v0_1) ?hy0_1 (by assumption) ?rest0_1
 case hy0_1 => rintro wq ⟨qB, qx⟩; have z1 := qx.out.cells.2.1; have z5 : wq.cell? ⟨v.b, 5, none⟩ = some (.int .u32 (n : Int)) := (qx.out.cells.2.2.2.2.2.1).trans (by rw [← HN.out]); clear qB qx; go_simp; try with_reducible rfl
 refine tke 1 (v := ?v1_2) ?hy1_2 (by assumption) ?rest1_2
 case hy1_2 => rintro wq ⟨qB, qx⟩; have z1 := qx.out.cells.2.1; have z5 : wq.cell? ⟨v.b, 5, none⟩ = some (.int .u32 (n : Int)) := (qx.out.cells.2.2.2.2.2.1).trans (by rw [← HN.out]); clear qB qx; go_simp; try with_reducible rfl
 refine tke 2 (v := ?v2_3) ?hy2_3 (by assumption) ?rest2_3
 case hy2_3 => rintro wq ⟨qB, qx⟩; have z1 := qx.out.cells.2.1; have z5 : wq.cell? ⟨v.b, 5, none⟩ = some (.int .u32 (n : Int)) := (qx.out.cells.2.2.2.2.2.1).trans (by rw [← HN.out]); clear qB qx; go_simp; try with_reducible rfl
 refine tke 3 (v := ?v3_4) ?hy3_4 (by assumption) ?rest3_4
 case hy3_4 => rintro wq ⟨qB, qx⟩; have z1 := qx.out.cells.2.1; have z5 : wq.cell? ⟨v.b, 5, none⟩ = some (.int .u32 (n : Int)) := (qx.out.cells.2.2.2.2.2.1).trans (by rw [← HN.out]); clear qB qx; go_simp; try with_reducible rfl
 refine tke 4 (v := ?v4_5) ?hy4_5 (by assumption) ?rest4_5
 case hy4_5 => rintro wq ⟨qB, qx⟩; have z1 := qx.out.cells.2.1; have z5 : wq.cell? ⟨v.b, 5, none⟩ = some (.int .u32 (n : Int)) := (qx.out.cells.2.2.2.2.2.1).trans (by rw [← HN.out]); clear qB qx; go_simp; try with_reducible rfl
 refine tke 5 (v := ?v5_6) ?hy5_6 (by assumption) ?rest5_6
 case hy5_6 => rintro wq ⟨qB, qx⟩; have z1 := qx.out.cells.2.1; have z5 : wq.cell? ⟨v.b, 5, none⟩ = some (.int .u32 (n : Int)) := (qx.out.cells.2.2.2.2.2.1).trans (by rw [← HN.out]); clear qB qx; go_simp; try with_reducible rfl
 refine tke 6 (v := ?v6_7) ?hy6_7 (by assumption) ?rest6_7
 case hy6_7 => rintro wq ⟨qB, qx⟩; have z1 := qx.out.cells.2.1; have z5 : wq.cell? ⟨v.b, 5, none⟩ = some (.int .u32 (n : Int)) := (qx.out.cells.2.2.2.2.2.1).trans (by rw [← HN.out]); clear qB qx; go_simp; try with_reducible rfl
 refine tke 7 (v := ?v7_8) ?hy7_8 (by assumption) ?rest7_8
 case hy7_8 => rintro wq ⟨qB, qx⟩; have z1 := qx.out.cells.2.1; have z5 : wq.cell? ⟨v.b, 5, none⟩ = some (.int .u32 (n : Int)) := (qx.out.cells.2.2.2.2.2.1).trans (by rw [← HN.out]); clear qB qx; go_simp; try with_reducible rfl
 refine tke 8 (v := ?v8_9) ?hy8_9 (by assumption) ?rest8_9
 case hy8_9 => rintro wq ⟨qB, qx⟩; have z1 := qx.out.cells.2.1; have z5 : wq.cell? ⟨v.b, 5, none⟩ = some (.int .u32 (n : Int)) := (qx.out.cells.2.2.2.2.2.1).trans (by rw [← HN.out]); clear qB qx; go_simp; try with_reducible rfl
 refine wpAnyH_ready (rs := [9]) (by kernel_rfl) (by simp) ?_
 refine (AllReadyH.cons (o := _) rfl (fun K hK => ?_) AllReadyH.nil)
 try simp only [lA, lB, lC]
 go_simp
 go_at_call 97
 refine (read_yes Jx.out.disk n HN2.out).mono ?_
 rintro e w1 ⟨rfl, rfl⟩
 have LB := hid (JB.out.alloc (o := (.cells (strCells (x.sec n)).toArray 110 (0, 0))) JB.out.size)
 have Lx := hid (Jx.out.below ((Below.refl _ _).alloc (Nat.le_refl _) (.cells (strCells (x.sec n)).toArray 110 (0, 0))))
 have hHeld := (⟨LB, Lx⟩ : ((fun w' => Hid (Below V.heap.size V w') ∧ Hid (BusAt w' base v { x with fl := 1 })) (wd.alloc (.cells (strCells (x.sec n)).toArray 110 (0, 0)))))
 refine hK.out _ _ hHeld (fun _ => ?_)
 try simp only [lA, lB, lC]
 refine tke 10 (v := ?v10_10) ?hy10_10 (by assumption) ?rest10_10
 case hy10_10 => rintro wq ⟨qB, qx⟩; clear qB qx; go_simp; try with_reducible rfl
 refine tke 11 (v := ?v11_11) ?hy11_11 (by assumption) ?rest11_11
 case hy11_11 => rintro wq ⟨qB, qx⟩; clear qB qx; go_simp; try with_reducible rfl
 refine tke 12 (v := ?v12_12) ?hy12_12 (by assumption) ?rest12_12
 case hy12_12 => rintro wq ⟨qB, qx⟩; clear qB qx; go_simp; try with_reducible rfl
 refine tke 13 (v := ?v13_13) ?hy13_13 (by assumption) ?rest13_13
 case hy13_13 => rintro wq ⟨qB, qx⟩; clear qB qx; go_simp; try with_reducible rfl
 refine tke 14 (v := ?v14_14) ?hy14_14 (by assumption) ?rest14_14
 case hy14_14 => rintro wq ⟨qB, qx⟩; clear qB qx; go_simp; try with_reducible rfl
 refine wpAnyH_done (by kernel_rfl) ?_ _
 clear hHeld
 have hsrc := World.news_of_block (heap_alloc_new wd (.cells (strCells (x.sec n)).toArray 110 (0, 0)))
 have hlen : (strCells (x.sec n)).length = 1024 := by rw [strCells_length]; exact B.disk.slen n HN2.out
 have HSRC := hid hsrc
 have HLEN := hid hlen
 clear hsrc hlen
 have hmin : (strCells (x.sec n)).length = Nat.min 1024 ((x.ad + 1024).toNat - x.ad.toNat) := by have := HLEN.out; have := HA.out; rw [HLEN.out, show (x.ad + 1024).toNat - x.ad.toNat = 1024 from by omega]; rfl
 have hthere : (wd.alloc (.cells (strCells (x.sec n)).toArray 110 (0, 0))).there v.m x.ad.toNat (strCells (x.sec n)).length := by have := HLEN.out; have := HA.out; exact Lx.out.there _ _ (by omega)
 have HMIN := hid hmin
 have HTH := hid hthere
 clear hmin hthere
 go_upto_region 7 with fail
 go_wp2_with (refine wpList_copy_cells rfl (.tmp 68) (.tmp 69) 69 69 rfl 5 Tryz.underlying69 u8_one v.m x.ad.toNat ((x.ad + 1024).toNat - x.ad.toNat) (1048576 - x.ad.toNat) ⟨wd.heap.size, 0, none⟩ 1024 1024 rfl rfl (strCells (x.sec n)) HMIN.out HSRC.out HTH.out (strCells_oneCell _) ?_; obtain ⟨B3, M3⟩ := Lx.out.lay x.ad.toNat 1024 (x.sec n) (B.disk.slen n HN2.out); have M4 := ((M2.trans (Moves.of_below v LB.out)).trans M3); clear HSRC HTH HMIN Lx LB; generalize (wd.alloc (.cells (strCells (x.sec n)).toArray 110 (0, 0))).setCells v.m x.ad.toNat (strCells (x.sec n)) = W3 at B3 M3 M4 ⊢; have c7 := B3.cells.2.2.2.2.2.2.2; have f7 := B3.row.frozen 7)
 go_end0
 obtain ⟨B5, M5⟩ := B3.setFl 0 (by omega)
 have e : x.ad.toNat = a := by have := HA.out; omega
 rw [e] at B5
 exact ⟨rfl, B5, M4.trans M5⟩
set_option maxRecDepth 100000 in
theorem bcmd_write (B : BusAt w base v x) (n : Nat) (hn : x.se = n) (a : Nat) (ha : x.ad = a) (h : x.ad % 4 = 0) (hh : x.ad ≤ 1047552) (hs : x.se < (x.N : Int)) (few : x.ws.length < 4096) :
 Calls Tryz.prog 78 #[.pointer (some ⟨v.b, 0, none⟩), .int .u32 2] w fun e w' => e = .returned (.tuple #[]) ∧ ∃ v', BusAt w' base v' { x with fl := 0, sec := upd x.sec n (ofBs (memBytes x.M a 1024)), ws := x.ws ++ [(n, x.sec n)] } ∧ Moves w w' v v' := by
 have hn2 : n < x.N := by omega
 have ha2 : a + 1024 ≤ 1048576 := by omega
 have HN := hid hn
 have HA := hid ha
 have HN2 := hid hn2
 have HA2 := hid ha2
 clear hn ha hn2 ha2
 have FEW := hid few
 clear few
 obtain ⟨-, -, -, -, -, -, -, c7⟩ := B.cells
 have f7 := B.row.frozen 7
 obtain ⟨B1, M1⟩ := B.setFl 1 (by omega)
 go_enter Tryz.func78, Tryz.ntmps78
 go_upto_region 1 with fail
 generalize w.setCell ⟨v.b, 7, none⟩ (.int .u32 1) = W at B1 M1 ⊢
 clear c7 f7
 obtain ⟨c0, c1, c2, c3, c4, c5, c6, c7⟩ := B1.cells
 clear c2 c3 c4
 have f7 := B1.row.frozen 7
 have a0 := B.adb.1
 have a1 := B.adb.2
 have s0 := B.seb.1
 have s1 := B.seb.2
 have n0 := B.disk.ge
 have n1 : (0 : Int) ≤ x.N := by omega
 have n2 : (x.N : Int) < 4294967296 := by omega
 have hh1 : decide (1047552 < x.ad) = false := decide_eq_false (by omega)
 have hs1 : decide ((x.N : Int) ≤ x.se) = false := decide_eq_false (by omega)
 have hw : (x.ad + 1024) % 4294967296 = x.ad + 1024 := by omega
 go_quiet (first | (go_at_call 79; exact Calls.quiet_of_same (sectors_quiet B1 _)))
 revert nq
 intro k1
 have hl1 : (x.ad + 1024).toNat - x.ad.toNat = 1024 := by omega
 go_upto_region 2 with fail
 go_quiet (fail)
 go_upto_region 10 with fail
 have B2 := B1.drew (k1 + nq)
 have M2 : Moves w (W.drewN (k1 + nq)) v v := M1.trans (Moves.of_below v ⟨rfl, rfl, rfl, Nat.le_refl _, fun _ _ => rfl⟩)
 generalize W.drewN (k1 + nq) = V at B2 M2 ⊢
 clear hl1 B1 M1 c0 c1 c5 c6 c7 f7
 have hwn : IntKind.i64.wrap (n : Int) = (n : Int) := IntWalk.i64_in _ (by have := HN2.out; omega)
 have JB : Hid (V.heap.size ≤ V.drew.heap.size) := hid (Nat.le_refl _)
 have Jx : Hid (∃ v' x', BusAt V.drew base v' x' ∧ v'.b = v.b ∧ v'.d = v.d ∧ x'.se = (n : Int)) := hid (⟨v, _, B2.drew 1, rfl, rfl, HN.out⟩)
 have Kx := hid (show BusAt V.drew base v { x with fl := 1 } from B2.drew 1)
 have KB := hid (show Moves V V.drew v v from Moves.of_below v (Below.refl _ _).drew)
 refine wp_region_held_drew (S := (fun w' => Hid (V.heap.size ≤ w'.heap.size) ∧ Hid (∃ v' x', BusAt w' base v' x' ∧ v'.b = v.b ∧ v'.d = v.d ∧ x'.se = (n : Int)))) (by kernel_rfl) ⟨JB, Jx⟩ (fun hHeld => ?_)
 clear hHeld
 generalize V.drew = wd at JB Jx Kx KB ⊢
 have hHeld : ((fun w' => Hid (V.heap.size ≤ w'.heap.size) ∧ Hid (∃ v' x', BusAt w' base v' x' ∧ v'.b = v.b ∧ v'.d = v.d ∧ x'.se = (n : Int))) wd) := ⟨JB, Jx⟩
 refine tke 0 (v := ?v0_15) ?hy0_15 (by assumption) ?rest0_15
 case hy0_15 => rintro wq ⟨qB, qx⟩; obtain ⟨v', x', bx, e1, e2, e3⟩ := qx.out; have z1 := bx.cells.2.1; have z5 := bx.cells.2.2.2.2.2.1; rw [e1, e2] at z1; rw [e1, e3] at z5; clear bx e1 e2 e3; clear qB qx; go_simp; try with_reducible rfl
 refine tke 1 (v := ?v1_16) ?hy1_16 (by assumption) ?rest1_16
 case hy1_16 => rintro wq ⟨qB, qx⟩; obtain ⟨v', x', bx, e1, e2, e3⟩ := qx.out; have z1 := bx.cells.2.1; have z5 := bx.cells.2.2.2.2.2.1; rw [e1, e2] at z1; rw [e1, e3] at z5; clear bx e1 e2 e3; clear qB qx; go_simp; try with_reducible rfl
 refine tke 2 (v := ?v2_17) ?hy2_17 (by assumption) ?rest2_17
 case hy2_17 => rintro wq ⟨qB, qx⟩; obtain ⟨v', x', bx, e1, e2, e3⟩ := qx.out; have z1 := bx.cells.2.1; have z5 := bx.cells.2.2.2.2.2.1; rw [e1, e2] at z1; rw [e1, e3] at z5; clear bx e1 e2 e3; clear qB qx; go_simp; try with_reducible rfl
 refine tke 3 (v := ?v3_18) ?hy3_18 (by assumption) ?rest3_18
 case hy3_18 => rintro wq ⟨qB, qx⟩; obtain ⟨v', x', bx, e1, e2, e3⟩ := qx.out; have z1 := bx.cells.2.1; have z5 := bx.cells.2.2.2.2.2.1; rw [e1, e2] at z1; rw [e1, e3] at z5; clear bx e1 e2 e3; clear qB qx; go_simp; try with_reducible rfl
 refine tke 4 (v := ?v4_19) ?hy4_19 (by assumption) ?rest4_19
 case hy4_19 => rintro wq ⟨qB, qx⟩; obtain ⟨v', x', bx, e1, e2, e3⟩ := qx.out; have z1 := bx.cells.2.1; have z5 := bx.cells.2.2.2.2.2.1; rw [e1, e2] at z1; rw [e1, e3] at z5; clear bx e1 e2 e3; clear qB qx; go_simp; try with_reducible rfl
 refine tke 5 (v := ?v5_20) ?hy5_20 (by assumption) ?rest5_20
 case hy5_20 => rintro wq ⟨qB, qx⟩; obtain ⟨v', x', bx, e1, e2, e3⟩ := qx.out; have z1 := bx.cells.2.1; have z5 := bx.cells.2.2.2.2.2.1; rw [e1, e2] at z1; rw [e1, e3] at z5; clear bx e1 e2 e3; clear qB qx; go_simp; try with_reducible rfl
 refine tke 6 (v := ?v6_21) ?hy6_21 (by assumption) ?rest6_21
 case hy6_21 => rintro wq ⟨qB, qx⟩; obtain ⟨v', x', bx, e1, e2, e3⟩ := qx.out; have z1 := bx.cells.2.1; have z5 := bx.cells.2.2.2.2.2.1; rw [e1, e2] at z1; rw [e1, e3] at z5; clear bx e1 e2 e3; clear qB qx; go_simp; try with_reducible rfl
 refine tke 7 (v := ?v7_22) ?hy7_22 (by assumption) ?rest7_22
 case hy7_22 => rintro wq ⟨qB, qx⟩; obtain ⟨v', x', bx, e1, e2, e3⟩ := qx.out; have z1 := bx.cells.2.1; have z5 := bx.cells.2.2.2.2.2.1; rw [e1, e2] at z1; rw [e1, e3] at z5; clear bx e1 e2 e3; clear qB qx; go_simp; try with_reducible rfl
 refine tke 8 (v := ?v8_23) ?hy8_23 (by assumption) ?rest8_23
 case hy8_23 => rintro wq ⟨qB, qx⟩; obtain ⟨v', x', bx, e1, e2, e3⟩ := qx.out; have z1 := bx.cells.2.1; have z5 := bx.cells.2.2.2.2.2.1; rw [e1, e2] at z1; rw [e1, e3] at z5; clear bx e1 e2 e3; clear qB qx; go_simp; try with_reducible rfl
 refine tke 9 (v := ?v9_24) ?hy9_24 (by assumption) ?rest9_24
 case hy9_24 => rintro wq ⟨qB, qx⟩; obtain ⟨v', x', bx, e1, e2, e3⟩ := qx.out; have z1 := bx.cells.2.1; have z5 := bx.cells.2.2.2.2.2.1; rw [e1, e2] at z1; rw [e1, e3] at z5; clear bx e1 e2 e3; clear qB qx; go_simp; try with_reducible rfl
 have hcb : 1024 ≤ 1048576 - x.ad.toNat := by have := HA.out; have := HA2.out; omega
 refine wpAnyH_ready (rs := [10]) (by kernel_rfl) (by simp) ?_
 refine (AllReadyH.cons (o := _) rfl (fun K hK => ?_) AllReadyH.nil)
 try simp only [lA, lB, lC]
 go_simp
 go_at_call 98
 refine (write_yes Kx.out.disk n HN2.out FEW.out v.m x.ad.toNat (1048576 - x.ad.toNat) (ofBs (memBytes x.M x.ad.toNat 1024)) (by rw [ofBs_size, memBytes_length]) hcb (bdisk_range Kx.out x.ad.toNat 1024 (by have := HA.out; have := HA2.out; omega)) (fun hm => by have ap := B.ap; simp only [drow, List.mem_cons, Option.mem_toList] at hm; rcases hm with hm | hm | hm; exact ap.md hm; exact ap.ms hm; exact (ap.wb _ hm).2.1 rfl)).mono ?_
 rintro e w1 ⟨rfl, u, hD, hT, hu⟩
 obtain ⟨B3, M3⟩ := Kx.out.newDisk hT hD hu
 have HB3 := hid B3
 have LB : Hid (V.heap.size ≤ w1.heap.size) := hid (Nat.le_trans JB.out hT.size)
 have M4 := hid ((M2.trans KB.out).trans M3)
 clear hD hT hu B3 M3
 have hHeld : ((fun w' => Hid (V.heap.size ≤ w'.heap.size) ∧ Hid (∃ v' x', BusAt w' base v' x' ∧ v'.b = v.b ∧ v'.d = v.d ∧ x'.se = (n : Int))) w1) := ⟨LB, hid ⟨_, _, HB3.out, rfl, rfl, HN.out⟩⟩
 refine hK.out _ _ hHeld (fun _ => ?_)
 try simp only [lA, lB, lC]
 refine tke 11 (v := ?v11_25) ?hy11_25 (by assumption) ?rest11_25
 case hy11_25 => rintro wq ⟨qB, qx⟩; clear qB qx; go_simp; try with_reducible rfl
 refine wpAnyH_done (by kernel_rfl) ?_ _
 clear hHeld hcb
 have c7 : w1.cell? ⟨v.b, 7, none⟩ = some (.int .u32 1) := HB3.out.cells.2.2.2.2.2.2.2
 have f7 : w1.frozen? ⟨v.b, 7, none⟩ = false := HB3.out.row.frozen 7
 clear Jx Kx KB JB B2 M2 hK h hh hs hh1 hs1 hw n0 n1 n2 a0 a1 s0 s1 hwn B
 go_wp2_with fail
 go_end0
 obtain ⟨B5, M5⟩ := HB3.out.setFl 0 (by omega)
 have e : x.ad.toNat = a := by have := HA.out; omega
 rw [e] at B5
 exact ⟨rfl, _, B5, M4.out.trans M5⟩
set_option maxRecDepth 100000 in
theorem bcmd_worn (B : BusAt w base v x) (n : Nat) (hn : x.se = n) (a : Nat) (ha : x.ad = a) (h : x.ad % 4 = 0) (hh : x.ad ≤ 1047552) (hs : x.se < (x.N : Int)) (few : ¬ x.ws.length < 4096) :
 Calls Tryz.prog 78 #[.pointer (some ⟨v.b, 0, none⟩), .int .u32 2] w fun e w' => e = .returned (.tuple #[]) ∧ BusAt w' base v x.fail ∧ Moves w w' v v := by
 have hn2 : n < x.N := by omega
 have ha2 : a + 1024 ≤ 1048576 := by omega
 have HN := hid hn
 have HA := hid ha
 have HN2 := hid hn2
 have HA2 := hid ha2
 clear hn ha hn2 ha2
 have FEW := hid few
 clear few
 obtain ⟨-, -, -, -, -, -, -, c7⟩ := B.cells
 have f7 := B.row.frozen 7
 obtain ⟨B1, M1⟩ := B.setFl 1 (by omega)
 go_enter Tryz.func78, Tryz.ntmps78
 go_upto_region 1 with fail
 generalize w.setCell ⟨v.b, 7, none⟩ (.int .u32 1) = W at B1 M1 ⊢
 clear c7 f7
 obtain ⟨c0, c1, c2, c3, c4, c5, c6, c7⟩ := B1.cells
 clear c2 c3 c4
 have f7 := B1.row.frozen 7
 have a0 := B.adb.1
 have a1 := B.adb.2
 have s0 := B.seb.1
 have s1 := B.seb.2
 have n0 := B.disk.ge
 have n1 : (0 : Int) ≤ x.N := by omega
 have n2 : (x.N : Int) < 4294967296 := by omega
 have hh1 : decide (1047552 < x.ad) = false := decide_eq_false (by omega)
 have hs1 : decide ((x.N : Int) ≤ x.se) = false := decide_eq_false (by omega)
 have hw : (x.ad + 1024) % 4294967296 = x.ad + 1024 := by omega
 go_quiet (first | (go_at_call 79; exact Calls.quiet_of_same (sectors_quiet B1 _)))
 revert nq
 intro k1
 have hl1 : (x.ad + 1024).toNat - x.ad.toNat = 1024 := by omega
 go_upto_region 2 with fail
 go_quiet (fail)
 go_upto_region 10 with fail
 have B2 := B1.drew (k1 + nq)
 have M2 : Moves w (W.drewN (k1 + nq)) v v := M1.trans (Moves.of_below v ⟨rfl, rfl, rfl, Nat.le_refl _, fun _ _ => rfl⟩)
 generalize W.drewN (k1 + nq) = V at B2 M2 ⊢
 clear hl1 B1 M1 c0 c1 c5 c6 c7 f7
 have hwn : IntKind.i64.wrap (n : Int) = (n : Int) := IntWalk.i64_in _ (by have := HN2.out; omega)
 have JB : Hid (V.heap.size ≤ V.drew.heap.size) := hid (Nat.le_refl _)
 have Jx : Hid (∃ v' x', BusAt V.drew base v' x' ∧ v'.b = v.b ∧ v'.d = v.d ∧ x'.se = (n : Int)) := hid (⟨v, _, B2.drew 1, rfl, rfl, HN.out⟩)
 have Kx := hid (show BusAt V.drew base v { x with fl := 1 } from B2.drew 1)
 have KB := hid (show Moves V V.drew v v from Moves.of_below v (Below.refl _ _).drew)
 refine wp_region_held_drew (S := (fun w' => Hid (V.heap.size ≤ w'.heap.size) ∧ Hid (∃ v' x', BusAt w' base v' x' ∧ v'.b = v.b ∧ v'.d = v.d ∧ x'.se = (n : Int)))) (by kernel_rfl) ⟨JB, Jx⟩ (fun hHeld => ?_)
 clear hHeld
 generalize V.drew = wd at JB Jx Kx KB ⊢
 have hHeld : ((fun w' => Hid (V.heap.size ≤ w'.heap.size) ∧ Hid (∃ v' x', BusAt w' base v' x' ∧ v'.b = v.b ∧ v'.d = v.d ∧ x'.se = (n : Int))) wd) := ⟨JB, Jx⟩
 refine tke 0 (v := ?v0_26) ?hy0_26 (by assumption) ?rest0_26
 case hy0_26 => rintro wq ⟨qB, qx⟩; obtain ⟨v', x', bx, e1, e2, e3⟩ := qx.out; have z1 := bx.cells.2.1; have z5 := bx.cells.2.2.2.2.2.1; rw [e1, e2] at z1; rw [e1, e3] at z5; clear bx e1 e2 e3; clear qB qx; go_simp; try with_reducible rfl
 refine tke 1 (v := ?v1_27) ?hy1_27 (by assumption) ?rest1_27
 case hy1_27 => rintro wq ⟨qB, qx⟩; obtain ⟨v', x', bx, e1, e2, e3⟩ := qx.out; have z1 := bx.cells.2.1; have z5 := bx.cells.2.2.2.2.2.1; rw [e1, e2] at z1; rw [e1, e3] at z5; clear bx e1 e2 e3; clear qB qx; go_simp; try with_reducible rfl
 refine tke 2 (v := ?v2_28) ?hy2_28 (by assumption) ?rest2_28
 case hy2_28 => rintro wq ⟨qB, qx⟩; obtain ⟨v', x', bx, e1, e2, e3⟩ := qx.out; have z1 := bx.cells.2.1; have z5 := bx.cells.2.2.2.2.2.1; rw [e1, e2] at z1; rw [e1, e3] at z5; clear bx e1 e2 e3; clear qB qx; go_simp; try with_reducible rfl
 refine tke 3 (v := ?v3_29) ?hy3_29 (by assumption) ?rest3_29
 case hy3_29 => rintro wq ⟨qB, qx⟩; obtain ⟨v', x', bx, e1, e2, e3⟩ := qx.out; have z1 := bx.cells.2.1; have z5 := bx.cells.2.2.2.2.2.1; rw [e1, e2] at z1; rw [e1, e3] at z5; clear bx e1 e2 e3; clear qB qx; go_simp; try with_reducible rfl
 refine tke 4 (v := ?v4_30) ?hy4_30 (by assumption) ?rest4_30
 case hy4_30 => rintro wq ⟨qB, qx⟩; obtain ⟨v', x', bx, e1, e2, e3⟩ := qx.out; have z1 := bx.cells.2.1; have z5 := bx.cells.2.2.2.2.2.1; rw [e1, e2] at z1; rw [e1, e3] at z5; clear bx e1 e2 e3; clear qB qx; go_simp; try with_reducible rfl
 refine tke 5 (v := ?v5_31) ?hy5_31 (by assumption) ?rest5_31
 case hy5_31 => rintro wq ⟨qB, qx⟩; obtain ⟨v', x', bx, e1, e2, e3⟩ := qx.out; have z1 := bx.cells.2.1; have z5 := bx.cells.2.2.2.2.2.1; rw [e1, e2] at z1; rw [e1, e3] at z5; clear bx e1 e2 e3; clear qB qx; go_simp; try with_reducible rfl
 refine tke 6 (v := ?v6_32) ?hy6_32 (by assumption) ?rest6_32
 case hy6_32 => rintro wq ⟨qB, qx⟩; obtain ⟨v', x', bx, e1, e2, e3⟩ := qx.out; have z1 := bx.cells.2.1; have z5 := bx.cells.2.2.2.2.2.1; rw [e1, e2] at z1; rw [e1, e3] at z5; clear bx e1 e2 e3; clear qB qx; go_simp; try with_reducible rfl
 refine tke 7 (v := ?v7_33) ?hy7_33 (by assumption) ?rest7_33
 case hy7_33 => rintro wq ⟨qB, qx⟩; obtain ⟨v', x', bx, e1, e2, e3⟩ := qx.out; have z1 := bx.cells.2.1; have z5 := bx.cells.2.2.2.2.2.1; rw [e1, e2] at z1; rw [e1, e3] at z5; clear bx e1 e2 e3; clear qB qx; go_simp; try with_reducible rfl
 refine tke 8 (v := ?v8_34) ?hy8_34 (by assumption) ?rest8_34
 case hy8_34 => rintro wq ⟨qB, qx⟩; obtain ⟨v', x', bx, e1, e2, e3⟩ := qx.out; have z1 := bx.cells.2.1; have z5 := bx.cells.2.2.2.2.2.1; rw [e1, e2] at z1; rw [e1, e3] at z5; clear bx e1 e2 e3; clear qB qx; go_simp; try with_reducible rfl
 refine tke 9 (v := ?v9_35) ?hy9_35 (by assumption) ?rest9_35
 case hy9_35 => rintro wq ⟨qB, qx⟩; obtain ⟨v', x', bx, e1, e2, e3⟩ := qx.out; have z1 := bx.cells.2.1; have z5 := bx.cells.2.2.2.2.2.1; rw [e1, e2] at z1; rw [e1, e3] at z5; clear bx e1 e2 e3; clear qB qx; go_simp; try with_reducible rfl
 have hcb : 1024 ≤ 1048576 - x.ad.toNat := by have := HA.out; have := HA2.out; omega
 refine wpAnyH_ready (rs := [10]) (by kernel_rfl) (by simp) ?_
 refine (AllReadyH.cons (o := _) rfl (fun K hK => ?_) AllReadyH.nil)
 try simp only [lA, lB, lC]
 go_simp
 go_at_call 98
 refine (bwrite_worn Kx.out.disk n HN2.out FEW.out (some ⟨v.m, x.ad.toNat, none⟩) (1048576 - x.ad.toNat)).mono ?_
 rintro e w1 ⟨rfl, rfl⟩
 refine hK.out _ _ hHeld (fun _ => ?_)
 try simp only [lA, lB, lC]
 refine tke 11 (v := ?v11_36) ?hy11_36 (by assumption) ?rest11_36
 case hy11_36 => rintro wq ⟨qB, qx⟩; clear qB qx; go_simp; try with_reducible rfl
 refine wpAnyH_done (by kernel_rfl) ?_ _
 clear hHeld hcb
 clear Jx JB B2 hK h hh hs hh1 hs1 hw n0 n1 n2 a0 a1 s0 s1 hwn B
 go_wp2_with fail
 go_end0
 exact ⟨rfl, Kx.out, M2.trans KB.out⟩
theorem bcmd_any (B : BusAt w base v x) (c : Int) (hc0 : 0 ≤ c) (hc1 : c < 4294967296) :
 Calls Tryz.prog 78 #[.pointer (some ⟨v.b, 0, none⟩), .int .u32 c] w fun e w' => e = .returned (.tuple #[]) ∧ ∃ v', BusAt w' base v' (x.cmd c) ∧ Moves w w' v v' := by
 have fl : ∀ {e : Ending} {w' : World}, x.cmd c = x.fail → (e = .returned (.tuple #[]) ∧ BusAt w' base v x.fail ∧ Moves w w' v v) → (e = .returned (.tuple #[]) ∧ ∃ v', BusAt w' base v' (x.cmd c) ∧ Moves w w' v v') := fun h k => ⟨k.1, v, by rw [h]; exact k.2.1, k.2.2⟩
 have a0 := B.adb.1
 have s0 := B.seb.1
 by_cases h : x.ad % 4 = 0
 ·by_cases hh : x.ad ≤ 1047552
  ·by_cases hs : x.se < (x.N : Int)
   ·have hm : x.may = true := by unfold BS.may; rw [decide_eq_true h, decide_eq_true hh, decide_eq_true hs]; rfl
    obtain ⟨n, hn⟩ := Int.eq_ofNat_of_zero_le s0
    obtain ⟨a, ha⟩ := Int.eq_ofNat_of_zero_le a0
    have en : x.se.toNat = n := by omega
    have ea : x.ad.toNat = a := by omega
    by_cases h1 : c = 1
    ·subst h1
     refine (bcmd_read B n hn a ha h hh hs).mono fun e w' k => ⟨k.1, v, ?_, k.2.2⟩
     unfold BS.cmd
     rw [if_pos hm, if_pos rfl, en, ea]
     exact k.2.1
    ·by_cases h2 : c = 2
     ·subst h2
      by_cases few : x.ws.length < 4096
      ·refine (bcmd_write B n hn a ha h hh hs few).mono fun e w' k => ?_
       obtain ⟨k1, v', k2, k3⟩ := k
       refine ⟨k1, v', ?_, k3⟩
       unfold BS.cmd
       rw [if_pos hm, if_neg h1, if_pos rfl, if_pos few, en, ea]
       exact k2
      ·exact (bcmd_worn B n hn a ha h hh hs few).mono fun e w' k => fl (by unfold BS.cmd; rw [if_pos hm, if_neg h1, if_pos rfl, if_neg few]) k
     ·exact (bcmd_other B c h hh hs (by simpa using h1) (by simpa using h2)).mono fun e w' k => fl (by unfold BS.cmd; rw [if_pos hm, if_neg h1, if_neg h2]) k
   ·exact (bcmd_out B c h hh (by omega)).mono fun e w' k => fl (by unfold BS.cmd BS.may; rw [decide_eq_false hs, Bool.and_false, if_neg (by decide)]) k
  ·exact (bcmd_high B c h (by omega)).mono fun e w' k => fl (by unfold BS.cmd BS.may; rw [decide_eq_false hh, Bool.and_false, Bool.false_and, if_neg (by decide)]) k
 ·have hm : x.cmd c = x.fail := by unfold BS.cmd BS.may; rw [decide_eq_false h, Bool.false_and, Bool.false_and, if_neg (by decide)]
  have h3 : x.ad % 4 = 1 ∨ x.ad % 4 = 2 ∨ x.ad % 4 = 3 := by omega
  rcases h3 with h3 | h3 | h3
  ·exact (bcmd_odd1 B c h3).mono fun e w' k => fl hm k
  ·exact (bcmd_odd2 B c h3).mono fun e w' k => fl hm k
  ·exact (bcmd_odd3 B c h3).mono fun e w' k => fl hm k
end
end Go.Proofs.YtgcknekhimpfkaaGreatDoor
