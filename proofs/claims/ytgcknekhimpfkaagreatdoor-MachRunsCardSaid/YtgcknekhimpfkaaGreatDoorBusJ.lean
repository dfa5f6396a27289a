/- An access to a device. -/
import Derived.Test.YtgcknekhimpfkaaGreatDoorBusI
namespace Go.Proofs.YtgcknekhimpfkaaGreatDoor
open Go Go.RowKit Go.Lib Go.Proofs.YtgcknekhimpfkaaGreatDoor.Pl
open List renaming getElem?_toArray → lD, getElem?_cons_zero → lE, getElem?_cons_succ → lF
set_option maxHeartbeats 1000000
set_option linter.unusedVariables false
set_option linter.unusedSimpArgs false
attribute [local go_sem ↓] exec_load_dev exec_store_dev
theorem run_equalIn_func {P : Program} (w : World) (d : Nat) (t : TypeId) (ps rs : Array TypeId) (va : Bool) (fn : Fn) (a c : Array Value) (h : P.underlying t = some (.func ps rs va)) : (Op.equalIn (d + 1) t (.func fn a c) .nilFunc).run P w = .ok false w := by
 simp [Op.equalIn, run_underlying h]
theorem run_equalIn_func_nil {P : Program} (w : World) (d : Nat) (t : TypeId) (ps rs : Array TypeId) (va : Bool) (h : P.underlying t = some (.func ps rs va)) : (Op.equalIn (d + 1) t .nilFunc .nilFunc).run P w = .ok true w := by
 simp [Op.equalIn, run_underlying h]
theorem run_equal_func {P : Program} (w : World) (t : TypeId) (ps rs : Array TypeId) (va : Bool) (fn : Fn) (a c : Array Value) (h : P.underlying t = some (.func ps rs va)) : (Op.equal t (.func fn a c) .nilFunc).run P w = .ok false w := run_equalIn_func w 9999 t ps rs va fn a c h
theorem run_equal_func_nil {P : Program} (w : World) (t : TypeId) (ps rs : Array TypeId) (va : Bool) (h : P.underlying t = some (.func ps rs va)) : (Op.equal t .nilFunc .nilFunc).run P w = .ok true w := run_equalIn_func_nil w 9999 t ps rs va h
theorem run_neq_func {P : Program} (w : World) (t : TypeId) (ps rs : Array TypeId) (va : Bool) (fn : Fn) (a c : Array Value) (h : P.underlying t = some (.func ps rs va)) : (binOp .neq t (.func fn a c) .nilFunc).run P w = .ok (.bool true) w := by
 simp only [binOp]
 simp [run_equal_func w t ps rs va fn a c h]
theorem run_neq_func_nil {P : Program} (w : World) (t : TypeId) (ps rs : Array TypeId) (va : Bool) (h : P.underlying t = some (.func ps rs va)) : (binOp .neq t .nilFunc .nilFunc).run P w = .ok (.bool false) w := by
 simp only [binOp]
 simp [run_equal_func_nil w t ps rs va h]
theorem neq_load (w : World) (fn : Fn) (a c : Array Value) : (binOp .neq 123 (.func fn a c) .nilFunc).run Tryz.prog w = .ok (.bool true) w := run_neq_func w _ _ _ _ fn a c Tryz.underlying123
theorem neq_load0 (w : World) : (binOp .neq 123 .nilFunc .nilFunc).run Tryz.prog w = .ok (.bool false) w := run_neq_func_nil w _ _ _ _ Tryz.underlying123
theorem neq_stor (w : World) (fn : Fn) (a c : Array Value) : (binOp .neq 62 (.func fn a c) .nilFunc).run Tryz.prog w = .ok (.bool true) w := run_neq_func w _ _ _ _ fn a c Tryz.underlying62
theorem neq_stor0 (w : World) : (binOp .neq 62 .nilFunc .nilFunc).run Tryz.prog w = .ok (.bool false) w := run_neq_func_nil w _ _ _ _ Tryz.underlying62
attribute [local go_sem] neq_load neq_load0 neq_stor neq_stor0
section
variable {w : World} {base : Nat} {v : BV} {x : BS}
set_option maxRecDepth 20000 in
theorem bld_timer (B : BusAt w base v x) (y : Int) (y0 : 0 ≤ y) (y1 : y < 4294967296)  :
 Calls Tryz.prog 37 #[.pointer (some ⟨v.b, 0, none⟩), .agg #[.int .i64 1, .int .u32 4294967232, .int .u32 y]] w fun e w' => e = .returned (.tuple #[.int .u32 x.tk, .int .i64 0]) ∧ ∃ v', BusAt w' base v' x ∧ Moves w w' v v' := by
 have hmf := hmf_all
 go_enter Tryz.func37, Tryz.ntmps37
 go_upto_region 1 with fail
 have k0 := Blk.new w #[.int .i64 1, .int .u32 4294967232, .int .u32 y] 96
 have kb : Below w.heap.size w (w.alloc (.cells #[.int .i64 1, .int .u32 4294967232, .int .u32 y] 96)) := (Below.refl _ _).alloc (Nat.le_refl _) _
 have kl : w.heap.size < (w.alloc (.cells #[.int .i64 1, .int .u32 4294967232, .int .u32 y] 96)).heap.size := by simp
 have B1 := B.below kb
 generalize w.alloc (.cells #[.int .i64 1, .int .u32 4294967232, .int .u32 y] 96) = W at k0 kb kl B1 ⊢
 have e0 := k0.cell 0
 have e1 := k0.cell 1
 have e2 := k0.cell 2
 simp only [lD, lE, lF] at e0 e1 e2
 have KB := hid kb
 have K0 := hid k0
 have HB1 := hid B1
 clear kb k0 B1
 go_upto_region 20 with (go_at_call 55; refine (bdev_timer HB1.out).mono ?_; rintro e w1 ⟨g, rfl, hg, hb1⟩; have hst := store_new_dev w1 #[.nilFunc, .nilFunc] #[(.func (.func 96) #[] #[.pointer (some ⟨g, 0, none⟩)]), .nilFunc] 125 rfl rfl (dev_one rfl rfl); have HB2 := hid (HB1.out.below hb1); have HBB := hid hb1; have K2 := hid (K0.out.step hb1); clear hb1)
 have hz : Below w1.heap.size w1 (w1.alloc (.cells #[(.func (.func 96) #[] #[.pointer (some ⟨g, 0, none⟩)]), .nilFunc] 125)) := (Below.refl _ _).alloc (Nat.le_refl _) _
 have hg2 := (Touch.of_below hz []).cell hg (by simp)
 have B3 := HB2.out.below hz
 have e4 := (K2.out.step hz).cell 2
 simp only [lD, lE, lF] at e4
 have D2 := Blk.new w1 #[(.func (.func 96) #[] #[.pointer (some ⟨g, 0, none⟩)]), .nilFunc] 125
 have MM := hid ((KB.out.trans (HBB.out.mono KB.out.size)).trans (hz.mono (Nat.le_trans KB.out.size HBB.out.size)))
 clear hz hst HBB HB2 K2 hg
 generalize w1.alloc (.cells #[(.func (.func 96) #[] #[.pointer (some ⟨g, 0, none⟩)]), .nilFunc] 125) = W2 at *
 have d0 := D2.cell 0
 have d1 := D2.cell 1
 simp only [lD, lE, lF] at d0 d1
 have HB3 := hid B3
 clear B3 D2
 go_wp2_with (go_at_call 96; refine (bfine1_any g x.tk hg2).mono ?_; rintro e w3 ⟨rfl, rfl⟩)
 go_ret2
 exact ⟨rfl, v, B.moves MM.out⟩
set_option maxRecDepth 20000 in
theorem bld_data0 (B : BusAt w base v x) (y : Int) (y0 : 0 ≤ y) (y1 : y < 4294967296) (hq : x.q = []) :
 Calls Tryz.prog 37 #[.pointer (some ⟨v.b, 0, none⟩), .agg #[.int .i64 1, .int .u32 4294967236, .int .u32 y]] w fun e w' => e = .returned (.tuple #[.int .u32 0, .int .i64 2]) ∧ ∃ v', BusAt w' base v' x ∧ Moves w w' v v' := by
 have hmf := hmf_all
 have HQ := hid hq
 clear hq
 go_enter Tryz.func37, Tryz.ntmps37
 go_upto_region 1 with fail
 have k0 := Blk.new w #[.int .i64 1, .int .u32 4294967236, .int .u32 y] 96
 have kb : Below w.heap.size w (w.alloc (.cells #[.int .i64 1, .int .u32 4294967236, .int .u32 y] 96)) := (Below.refl _ _).alloc (Nat.le_refl _) _
 have kl : w.heap.size < (w.alloc (.cells #[.int .i64 1, .int .u32 4294967236, .int .u32 y] 96)).heap.size := by simp
 have B1 := B.below kb
 generalize w.alloc (.cells #[.int .i64 1, .int .u32 4294967236, .int .u32 y] 96) = W at k0 kb kl B1 ⊢
 have e0 := k0.cell 0
 have e1 := k0.cell 1
 have e2 := k0.cell 2
 simp only [lD, lE, lF] at e0 e1 e2
 have KB := hid kb
 have K0 := hid k0
 have HB1 := hid B1
 clear kb k0 B1
 go_upto_region 20 with (go_at_call 55; refine (bdev_data HB1.out).mono ?_; rintro e w1 ⟨rfl, hb1⟩; have hst := store_new_dev w1 #[.nilFunc, .nilFunc] #[(.func (.func 74) #[.pointer (some ⟨v.b, 0, none⟩)] #[]), (.func (.func 75) #[.pointer (some ⟨v.b, 0, none⟩)] #[])] 125 rfl rfl (dev_one rfl rfl); have HB2 := hid (HB1.out.below hb1); have HBB := hid hb1; have K2 := hid (K0.out.step hb1); clear hb1)
 have hz : Below w1.heap.size w1 (w1.alloc (.cells #[(.func (.func 74) #[.pointer (some ⟨v.b, 0, none⟩)] #[]), (.func (.func 75) #[.pointer (some ⟨v.b, 0, none⟩)] #[])] 125)) := (Below.refl _ _).alloc (Nat.le_refl _) _
 have B3 := HB2.out.below hz
 have e4 := (K2.out.step hz).cell 2
 simp only [lD, lE, lF] at e4
 have D2 := Blk.new w1 #[(.func (.func 74) #[.pointer (some ⟨v.b, 0, none⟩)] #[]), (.func (.func 75) #[.pointer (some ⟨v.b, 0, none⟩)] #[])] 125
 have MM := hid ((KB.out.trans (HBB.out.mono KB.out.size)).trans (hz.mono (Nat.le_trans KB.out.size HBB.out.size)))
 clear hz hst HBB HB2 K2
 generalize w1.alloc (.cells #[(.func (.func 74) #[.pointer (some ⟨v.b, 0, none⟩)] #[]), (.func (.func 75) #[.pointer (some ⟨v.b, 0, none⟩)] #[])] 125) = W2 at *
 have d0 := D2.cell 0
 have d1 := D2.cell 1
 simp only [lD, lE, lF] at d0 d1
 have HB3 := hid B3
 clear B3 D2
 go_wp2_with (go_at_call 74; refine (btake_none HB3.out HQ.out).mono ?_; rintro e w3 ⟨rfl, rfl⟩)
 go_ret2
 exact ⟨rfl, v, B.moves MM.out⟩
set_option maxRecDepth 20000 in
theorem bld_data1 (B : BusAt w base v x) (y : Int) (y0 : 0 ≤ y) (y1 : y < 4294967296) (c : UInt8) (r : List UInt8) (hq : x.q = c :: r) :
 Calls Tryz.prog 37 #[.pointer (some ⟨v.b, 0, none⟩), .agg #[.int .i64 1, .int .u32 4294967236, .int .u32 y]] w fun e w' => e = .returned (.tuple #[.int .u32 c.toNat, .int .i64 0]) ∧ ∃ v', BusAt w' base v' { x with q := r } ∧ Moves w w' v v' := by
 have hmf := hmf_all
 have HQ := hid hq
 clear hq
 go_enter Tryz.func37, Tryz.ntmps37
 go_upto_region 1 with fail
 have k0 := Blk.new w #[.int .i64 1, .int .u32 4294967236, .int .u32 y] 96
 have kb : Below w.heap.size w (w.alloc (.cells #[.int .i64 1, .int .u32 4294967236, .int .u32 y] 96)) := (Below.refl _ _).alloc (Nat.le_refl _) _
 have kl : w.heap.size < (w.alloc (.cells #[.int .i64 1, .int .u32 4294967236, .int .u32 y] 96)).heap.size := by simp
 have B1 := B.below kb
 generalize w.alloc (.cells #[.int .i64 1, .int .u32 4294967236, .int .u32 y] 96) = W at k0 kb kl B1 ⊢
 have e0 := k0.cell 0
 have e1 := k0.cell 1
 have e2 := k0.cell 2
 simp only [lD, lE, lF] at e0 e1 e2
 have KB := hid kb
 have K0 := hid k0
 have HB1 := hid B1
 clear kb k0 B1
 go_upto_region 20 with (go_at_call 55; refine (bdev_data HB1.out).mono ?_; rintro e w1 ⟨rfl, hb1⟩; have hst := store_new_dev w1 #[.nilFunc, .nilFunc] #[(.func (.func 74) #[.pointer (some ⟨v.b, 0, none⟩)] #[]), (.func (.func 75) #[.pointer (some ⟨v.b, 0, none⟩)] #[])] 125 rfl rfl (dev_one rfl rfl); have HB2 := hid (HB1.out.below hb1); have HBB := hid hb1; have K2 := hid (K0.out.step hb1); clear hb1)
 have hz : Below w1.heap.size w1 (w1.alloc (.cells #[(.func (.func 74) #[.pointer (some ⟨v.b, 0, none⟩)] #[]), (.func (.func 75) #[.pointer (some ⟨v.b, 0, none⟩)] #[])] 125)) := (Below.refl _ _).alloc (Nat.le_refl _) _
 have B3 := HB2.out.below hz
 have e4 := (K2.out.step hz).cell 2
 simp only [lD, lE, lF] at e4
 have D2 := Blk.new w1 #[(.func (.func 74) #[.pointer (some ⟨v.b, 0, none⟩)] #[]), (.func (.func 75) #[.pointer (some ⟨v.b, 0, none⟩)] #[])] 125
 have MM := hid ((KB.out.trans (HBB.out.mono KB.out.size)).trans (hz.mono (Nat.le_trans KB.out.size HBB.out.size)))
 clear hz hst HBB HB2 K2
 generalize w1.alloc (.cells #[(.func (.func 74) #[.pointer (some ⟨v.b, 0, none⟩)] #[]), (.func (.func 75) #[.pointer (some ⟨v.b, 0, none⟩)] #[])] 125) = W2 at *
 have d0 := D2.cell 0
 have d1 := D2.cell 1
 simp only [lD, lE, lF] at d0 d1
 have HB3 := hid B3
 clear B3 D2
 go_wp2_with (go_at_call 74; refine (btake_some HB3.out c r HQ.out).mono ?_; rintro e w3 ⟨rfl, v4, B4, M4⟩)
 go_ret2
 exact ⟨rfl, v4, B4, (Moves.of_below v MM.out).trans M4⟩
set_option maxRecDepth 20000 in
theorem bld_status0 (B : BusAt w base v x) (y : Int) (y0 : 0 ≤ y) (y1 : y < 4294967296) (hq : x.q = []) :
 Calls Tryz.prog 37 #[.pointer (some ⟨v.b, 0, none⟩), .agg #[.int .i64 1, .int .u32 4294967240, .int .u32 y]] w fun e w' => e = .returned (.tuple #[.int .u32 2, .int .i64 0]) ∧ ∃ v', BusAt w' base v' x ∧ Moves w w' v v' := by
 have hmf := hmf_all
 have HQ := hid hq
 clear hq
 go_enter Tryz.func37, Tryz.ntmps37
 go_upto_region 1 with fail
 have k0 := Blk.new w #[.int .i64 1, .int .u32 4294967240, .int .u32 y] 96
 have kb : Below w.heap.size w (w.alloc (.cells #[.int .i64 1, .int .u32 4294967240, .int .u32 y] 96)) := (Below.refl _ _).alloc (Nat.le_refl _) _
 have kl : w.heap.size < (w.alloc (.cells #[.int .i64 1, .int .u32 4294967240, .int .u32 y] 96)).heap.size := by simp
 have B1 := B.below kb
 generalize w.alloc (.cells #[.int .i64 1, .int .u32 4294967240, .int .u32 y] 96) = W at k0 kb kl B1 ⊢
 have e0 := k0.cell 0
 have e1 := k0.cell 1
 have e2 := k0.cell 2
 simp only [lD, lE, lF] at e0 e1 e2
 have KB := hid kb
 have K0 := hid k0
 have HB1 := hid B1
 clear kb k0 B1
 go_upto_region 20 with (go_at_call 55; refine (bdev_status0 HB1.out HQ.out).mono ?_; rintro e w1 ⟨g, rfl, hg, hb1⟩; have hst := store_new_dev w1 #[.nilFunc, .nilFunc] #[(.func (.func 96) #[] #[.pointer (some ⟨g, 0, none⟩)]), .nilFunc] 125 rfl rfl (dev_one rfl rfl); have HB2 := hid (HB1.out.below hb1); have HBB := hid hb1; have K2 := hid (K0.out.step hb1); clear hb1)
 have hz : Below w1.heap.size w1 (w1.alloc (.cells #[(.func (.func 96) #[] #[.pointer (some ⟨g, 0, none⟩)]), .nilFunc] 125)) := (Below.refl _ _).alloc (Nat.le_refl _) _
 have hg2 := (Touch.of_below hz []).cell hg (by simp)
 have B3 := HB2.out.below hz
 have e4 := (K2.out.step hz).cell 2
 simp only [lD, lE, lF] at e4
 have D2 := Blk.new w1 #[(.func (.func 96) #[] #[.pointer (some ⟨g, 0, none⟩)]), .nilFunc] 125
 have MM := hid ((KB.out.trans (HBB.out.mono KB.out.size)).trans (hz.mono (Nat.le_trans KB.out.size HBB.out.size)))
 clear hz hst HBB HB2 K2 hg
 generalize w1.alloc (.cells #[(.func (.func 96) #[] #[.pointer (some ⟨g, 0, none⟩)]), .nilFunc] 125) = W2 at *
 have d0 := D2.cell 0
 have d1 := D2.cell 1
 simp only [lD, lE, lF] at d0 d1
 have HB3 := hid B3
 clear B3 D2
 go_wp2_with (go_at_call 96; refine (bfine1_any g 2 hg2).mono ?_; rintro e w3 ⟨rfl, rfl⟩)
 go_ret2
 exact ⟨rfl, v, B.moves MM.out⟩
set_option maxRecDepth 20000 in
theorem bld_status1 (B : BusAt w base v x) (y : Int) (y0 : 0 ≤ y) (y1 : y < 4294967296) (hq : 0 < x.q.length) :
 Calls Tryz.prog 37 #[.pointer (some ⟨v.b, 0, none⟩), .agg #[.int .i64 1, .int .u32 4294967240, .int .u32 y]] w fun e w' => e = .returned (.tuple #[.int .u32 3, .int .i64 0]) ∧ ∃ v', BusAt w' base v' x ∧ Moves w w' v v' := by
 have hmf := hmf_all
 have HQ := hid hq
 clear hq
 go_enter Tryz.func37, Tryz.ntmps37
 go_upto_region 1 with fail
 have k0 := Blk.new w #[.int .i64 1, .int .u32 4294967240, .int .u32 y] 96
 have kb : Below w.heap.size w (w.alloc (.cells #[.int .i64 1, .int .u32 4294967240, .int .u32 y] 96)) := (Below.refl _ _).alloc (Nat.le_refl _) _
 have kl : w.heap.size < (w.alloc (.cells #[.int .i64 1, .int .u32 4294967240, .int .u32 y] 96)).heap.size := by simp
 have B1 := B.below kb
 generalize w.alloc (.cells #[.int .i64 1, .int .u32 4294967240, .int .u32 y] 96) = W at k0 kb kl B1 ⊢
 have e0 := k0.cell 0
 have e1 := k0.cell 1
 have e2 := k0.cell 2
 simp only [lD, lE, lF] at e0 e1 e2
 have KB := hid kb
 have K0 := hid k0
 have HB1 := hid B1
 clear kb k0 B1
 go_upto_region 20 with (go_at_call 55; refine (bdev_status1 HB1.out HQ.out).mono ?_; rintro e w1 ⟨g, rfl, hg, hb1⟩; have hst := store_new_dev w1 #[.nilFunc, .nilFunc] #[(.func (.func 96) #[] #[.pointer (some ⟨g, 0, none⟩)]), .nilFunc] 125 rfl rfl (dev_one rfl rfl); have HB2 := hid (HB1.out.below hb1); have HBB := hid hb1; have K2 := hid (K0.out.step hb1); clear hb1)
 have hz : Below w1.heap.size w1 (w1.alloc (.cells #[(.func (.func 96) #[] #[.pointer (some ⟨g, 0, none⟩)]), .nilFunc] 125)) := (Below.refl _ _).alloc (Nat.le_refl _) _
 have hg2 := (Touch.of_below hz []).cell hg (by simp)
 have B3 := HB2.out.below hz
 have e4 := (K2.out.step hz).cell 2
 simp only [lD, lE, lF] at e4
 have D2 := Blk.new w1 #[(.func (.func 96) #[] #[.pointer (some ⟨g, 0, none⟩)]), .nilFunc] 125
 have MM := hid ((KB.out.trans (HBB.out.mono KB.out.size)).trans (hz.mono (Nat.le_trans KB.out.size HBB.out.size)))
 clear hz hst HBB HB2 K2 hg
 generalize w1.alloc (.cells #[(.func (.func 96) #[] #[.pointer (some ⟨g, 0, none⟩)]), .nilFunc] 125) = W2 at *
 have d0 := D2.cell 0
 have d1 := D2.cell 1
 simp only [lD, lE, lF] at d0 d1
 have HB3 := hid B3
 clear B3 D2
 go_wp2_with (go_at_call 96; refine (bfine1_any g 3 hg2).mono ?_; rintro e w3 ⟨rfl, rfl⟩)
 go_ret2
 exact ⟨rfl, v, B.moves MM.out⟩
set_option maxRecDepth 20000 in
theorem bld_sector (B : BusAt w base v x) (y : Int) (y0 : 0 ≤ y) (y1 : y < 4294967296)  :
 Calls Tryz.prog 37 #[.pointer (some ⟨v.b, 0, none⟩), .agg #[.int .i64 1, .int .u32 4294967244, .int .u32 y]] w fun e w' => e = .returned (.tuple #[.int .u32 x.se, .int .i64 0]) ∧ ∃ v', BusAt w' base v' x ∧ Moves w w' v v' := by
 have hmf := hmf_all
 go_enter Tryz.func37, Tryz.ntmps37
 go_upto_region 1 with fail
 have k0 := Blk.new w #[.int .i64 1, .int .u32 4294967244, .int .u32 y] 96
 have kb : Below w.heap.size w (w.alloc (.cells #[.int .i64 1, .int .u32 4294967244, .int .u32 y] 96)) := (Below.refl _ _).alloc (Nat.le_refl _) _
 have kl : w.heap.size < (w.alloc (.cells #[.int .i64 1, .int .u32 4294967244, .int .u32 y] 96)).heap.size := by simp
 have B1 := B.below kb
 generalize w.alloc (.cells #[.int .i64 1, .int .u32 4294967244, .int .u32 y] 96) = W at k0 kb kl B1 ⊢
 have e0 := k0.cell 0
 have e1 := k0.cell 1
 have e2 := k0.cell 2
 simp only [lD, lE, lF] at e0 e1 e2
 have KB := hid kb
 have K0 := hid k0
 have HB1 := hid B1
 clear kb k0 B1
 go_upto_region 20 with (go_at_call 55; refine (bdev_sector HB1.out).mono ?_; rintro e w1 ⟨g, h, rfl, hg, hh, hb1⟩; have hst := store_new_dev w1 #[.nilFunc, .nilFunc] #[(.func (.func 96) #[] #[.pointer (some ⟨g, 0, none⟩)]), (.func (.func 76) #[] #[.pointer (some ⟨h, 0, none⟩)])] 125 rfl rfl (dev_one rfl rfl); have HB2 := hid (HB1.out.below hb1); have HBB := hid hb1; have K2 := hid (K0.out.step hb1); clear hb1)
 have hz : Below w1.heap.size w1 (w1.alloc (.cells #[(.func (.func 96) #[] #[.pointer (some ⟨g, 0, none⟩)]), (.func (.func 76) #[] #[.pointer (some ⟨h, 0, none⟩)])] 125)) := (Below.refl _ _).alloc (Nat.le_refl _) _
 have hg2 := (Touch.of_below hz []).cell hg (by simp)
 have hh2 := (Touch.of_below hz []).cell hh (by simp)
 have B3 := HB2.out.below hz
 have e4 := (K2.out.step hz).cell 2
 simp only [lD, lE, lF] at e4
 have D2 := Blk.new w1 #[(.func (.func 96) #[] #[.pointer (some ⟨g, 0, none⟩)]), (.func (.func 76) #[] #[.pointer (some ⟨h, 0, none⟩)])] 125
 have MM := hid ((KB.out.trans (HBB.out.mono KB.out.size)).trans (hz.mono (Nat.le_trans KB.out.size HBB.out.size)))
 clear hz hst HBB HB2 K2 hg hh
 generalize w1.alloc (.cells #[(.func (.func 96) #[] #[.pointer (some ⟨g, 0, none⟩)]), (.func (.func 76) #[] #[.pointer (some ⟨h, 0, none⟩)])] 125) = W2 at *
 have d0 := D2.cell 0
 have d1 := D2.cell 1
 simp only [lD, lE, lF] at d0 d1
 have HB3 := hid B3
 clear B3 D2
 go_wp2_with (go_at_call 96; refine (bfine1_any g x.se hg2).mono ?_; rintro e w3 ⟨rfl, rfl⟩)
 go_ret2
 exact ⟨rfl, v, B.moves MM.out⟩
set_option maxRecDepth 20000 in
theorem bld_address (B : BusAt w base v x) (y : Int) (y0 : 0 ≤ y) (y1 : y < 4294967296)  :
 Calls Tryz.prog 37 #[.pointer (some ⟨v.b, 0, none⟩), .agg #[.int .i64 1, .int .u32 4294967248, .int .u32 y]] w fun e w' => e = .returned (.tuple #[.int .u32 x.ad, .int .i64 0]) ∧ ∃ v', BusAt w' base v' x ∧ Moves w w' v v' := by
 have hmf := hmf_all
 go_enter Tryz.func37, Tryz.ntmps37
 go_upto_region 1 with fail
 have k0 := Blk.new w #[.int .i64 1, .int .u32 4294967248, .int .u32 y] 96
 have kb : Below w.heap.size w (w.alloc (.cells #[.int .i64 1, .int .u32 4294967248, .int .u32 y] 96)) := (Below.refl _ _).alloc (Nat.le_refl _) _
 have kl : w.heap.size < (w.alloc (.cells #[.int .i64 1, .int .u32 4294967248, .int .u32 y] 96)).heap.size := by simp
 have B1 := B.below kb
 generalize w.alloc (.cells #[.int .i64 1, .int .u32 4294967248, .int .u32 y] 96) = W at k0 kb kl B1 ⊢
 have e0 := k0.cell 0
 have e1 := k0.cell 1
 have e2 := k0.cell 2
 simp only [lD, lE, lF] at e0 e1 e2
 have KB := hid kb
 have K0 := hid k0
 have HB1 := hid B1
 clear kb k0 B1
 go_upto_region 20 with (go_at_call 55; refine (bdev_address HB1.out).mono ?_; rintro e w1 ⟨g, h, rfl, hg, hh, hb1⟩; have hst := store_new_dev w1 #[.nilFunc, .nilFunc] #[(.func (.func 96) #[] #[.pointer (some ⟨g, 0, none⟩)]), (.func (.func 77) #[] #[.pointer (some ⟨h, 0, none⟩)])] 125 rfl rfl (dev_one rfl rfl); have HB2 := hid (HB1.out.below hb1); have HBB := hid hb1; have K2 := hid (K0.out.step hb1); clear hb1)
 have hz : Below w1.heap.size w1 (w1.alloc (.cells #[(.func (.func 96) #[] #[.pointer (some ⟨g, 0, none⟩)]), (.func (.func 77) #[] #[.pointer (some ⟨h, 0, none⟩)])] 125)) := (Below.refl _ _).alloc (Nat.le_refl _) _
 have hg2 := (Touch.of_below hz []).cell hg (by simp)
 have hh2 := (Touch.of_below hz []).cell hh (by simp)
 have B3 := HB2.out.below hz
 have e4 := (K2.out.step hz).cell 2
 simp only [lD, lE, lF] at e4
 have D2 := Blk.new w1 #[(.func (.func 96) #[] #[.pointer (some ⟨g, 0, none⟩)]), (.func (.func 77) #[] #[.pointer (some ⟨h, 0, none⟩)])] 125
 have MM := hid ((KB.out.trans (HBB.out.mono KB.out.size)).trans (hz.mono (Nat.le_trans KB.out.size HBB.out.size)))
 clear hz hst HBB HB2 K2 hg hh
 generalize w1.alloc (.cells #[(.func (.func 96) #[] #[.pointer (some ⟨g, 0, none⟩)]), (.func (.func 77) #[] #[.pointer (some ⟨h, 0, none⟩)])] 125) = W2 at *
 have d0 := D2.cell 0
 have d1 := D2.cell 1
 simp only [lD, lE, lF] at d0 d1
 have HB3 := hid B3
 clear B3 D2
 go_wp2_with (go_at_call 96; refine (bfine1_any g x.ad hg2).mono ?_; rintro e w3 ⟨rfl, rfl⟩)
 go_ret2
 exact ⟨rfl, v, B.moves MM.out⟩
set_option maxRecDepth 20000 in
theorem bld_command (B : BusAt w base v x) (y : Int) (y0 : 0 ≤ y) (y1 : y < 4294967296)  :
 Calls Tryz.prog 37 #[.pointer (some ⟨v.b, 0, none⟩), .agg #[.int .i64 1, .int .u32 4294967252, .int .u32 y]] w fun e w' => e = .returned (.tuple #[.int .u32 x.fl, .int .i64 0]) ∧ ∃ v', BusAt w' base v' x ∧ Moves w w' v v' := by
 have hmf := hmf_all
 go_enter Tryz.func37, Tryz.ntmps37
 go_upto_region 1 with fail
 have k0 := Blk.new w #[.int .i64 1, .int .u32 4294967252, .int .u32 y] 96
 have kb : Below w.heap.size w (w.alloc (.cells #[.int .i64 1, .int .u32 4294967252, .int .u32 y] 96)) := (Below.refl _ _).alloc (Nat.le_refl _) _
 have kl : w.heap.size < (w.alloc (.cells #[.int .i64 1, .int .u32 4294967252, .int .u32 y] 96)).heap.size := by simp
 have B1 := B.below kb
 generalize w.alloc (.cells #[.int .i64 1, .int .u32 4294967252, .int .u32 y] 96) = W at k0 kb kl B1 ⊢
 have e0 := k0.cell 0
 have e1 := k0.cell 1
 have e2 := k0.cell 2
 simp only [lD, lE, lF] at e0 e1 e2
 have KB := hid kb
 have K0 := hid k0
 have HB1 := hid B1
 clear kb k0 B1
 go_upto_region 20 with (go_at_call 55; refine (bdev_command HB1.out).mono ?_; rintro e w1 ⟨g, rfl, hg, hb1⟩; have hst := store_new_dev w1 #[.nilFunc, .nilFunc] #[(.func (.func 96) #[] #[.pointer (some ⟨g, 0, none⟩)]), (.func (.func 78) #[.pointer (some ⟨v.b, 0, none⟩)] #[])] 125 rfl rfl (dev_one rfl rfl); have HB2 := hid (HB1.out.below hb1); have HBB := hid hb1; have K2 := hid (K0.out.step hb1); clear hb1)
 have hz : Below w1.heap.size w1 (w1.alloc (.cells #[(.func (.func 96) #[] #[.pointer (some ⟨g, 0, none⟩)]), (.func (.func 78) #[.pointer (some ⟨v.b, 0, none⟩)] #[])] 125)) := (Below.refl _ _).alloc (Nat.le_refl _) _
 have hg2 := (Touch.of_below hz []).cell hg (by simp)
 have B3 := HB2.out.below hz
 have e4 := (K2.out.step hz).cell 2
 simp only [lD, lE, lF] at e4
 have D2 := Blk.new w1 #[(.func (.func 96) #[] #[.pointer (some ⟨g, 0, none⟩)]), (.func (.func 78) #[.pointer (some ⟨v.b, 0, none⟩)] #[])] 125
 have MM := hid ((KB.out.trans (HBB.out.mono KB.out.size)).trans (hz.mono (Nat.le_trans KB.out.size HBB.out.size)))
 clear hz hst HBB HB2 K2 hg
 generalize w1.alloc (.cells #[(.func (.func 96) #[] #[.pointer (some ⟨g, 0, none⟩)]), (.func (.func 78) #[.pointer (some ⟨v.b, 0, none⟩)] #[])] 125) = W2 at *
 have d0 := D2.cell 0
 have d1 := D2.cell 1
 simp only [lD, lE, lF] at d0 d1
 have HB3 := hid B3
 clear B3 D2
 go_wp2_with (go_at_call 96; refine (bfine1_any g x.fl hg2).mono ?_; rintro e w3 ⟨rfl, rfl⟩)
 go_ret2
 exact ⟨rfl, v, B.moves MM.out⟩
set_option maxRecDepth 20000 in
theorem bld_sectors (B : BusAt w base v x) (y : Int) (y0 : 0 ≤ y) (y1 : y < 4294967296)  :
 Calls Tryz.prog 37 #[.pointer (some ⟨v.b, 0, none⟩), .agg #[.int .i64 1, .int .u32 4294967256, .int .u32 y]] w fun e w' => e = .returned (.tuple #[.int .u32 x.N, .int .i64 0]) ∧ ∃ v', BusAt w' base v' x ∧ Moves w w' v v' := by
 have hmf := hmf_all
 go_enter Tryz.func37, Tryz.ntmps37
 go_upto_region 1 with fail
 have k0 := Blk.new w #[.int .i64 1, .int .u32 4294967256, .int .u32 y] 96
 have kb : Below w.heap.size w (w.alloc (.cells #[.int .i64 1, .int .u32 4294967256, .int .u32 y] 96)) := (Below.refl _ _).alloc (Nat.le_refl _) _
 have kl : w.heap.size < (w.alloc (.cells #[.int .i64 1, .int .u32 4294967256, .int .u32 y] 96)).heap.size := by simp
 have B1 := B.below kb
 generalize w.alloc (.cells #[.int .i64 1, .int .u32 4294967256, .int .u32 y] 96) = W at k0 kb kl B1 ⊢
 have e0 := k0.cell 0
 have e1 := k0.cell 1
 have e2 := k0.cell 2
 simp only [lD, lE, lF] at e0 e1 e2
 have KB := hid kb
 have K0 := hid k0
 have HB1 := hid B1
 clear kb k0 B1
 go_upto_region 20 with (go_at_call 55; refine (bdev_sectors HB1.out).mono ?_; rintro e w1 ⟨g, rfl, hg, hb1⟩; have hst := store_new_dev w1 #[.nilFunc, .nilFunc] #[(.func (.func 96) #[] #[.pointer (some ⟨g, 0, none⟩)]), .nilFunc] 125 rfl rfl (dev_one rfl rfl); have HB2 := hid (HB1.out.below hb1); have HBB := hid hb1; have K2 := hid (K0.out.step hb1); clear hb1)
 have hz : Below w1.heap.size w1 (w1.alloc (.cells #[(.func (.func 96) #[] #[.pointer (some ⟨g, 0, none⟩)]), .nilFunc] 125)) := (Below.refl _ _).alloc (Nat.le_refl _) _
 have hg2 := (Touch.of_below hz []).cell hg (by simp)
 have B3 := HB2.out.below hz
 have e4 := (K2.out.step hz).cell 2
 simp only [lD, lE, lF] at e4
 have D2 := Blk.new w1 #[(.func (.func 96) #[] #[.pointer (some ⟨g, 0, none⟩)]), .nilFunc] 125
 have MM := hid ((KB.out.trans (HBB.out.mono KB.out.size)).trans (hz.mono (Nat.le_trans KB.out.size HBB.out.size)))
 clear hz hst HBB HB2 K2 hg
 generalize w1.alloc (.cells #[(.func (.func 96) #[] #[.pointer (some ⟨g, 0, none⟩)]), .nilFunc] 125) = W2 at *
 have d0 := D2.cell 0
 have d1 := D2.cell 1
 simp only [lD, lE, lF] at d0 d1
 have HB3 := hid B3
 clear B3 D2
 go_wp2_with (go_at_call 96; refine (bfine1_any g x.N hg2).mono ?_; rintro e w3 ⟨rfl, rfl⟩)
 go_ret2
 exact ⟨rfl, v, B.moves MM.out⟩
set_option maxRecDepth 20000 in
theorem bld_none (B : BusAt w base v x) (a : Int) (a0 : 0 ≤ a) (a1 : a < 4294967296) (ha : decide (a < 1048576) = false) (y : Int) (y0 : 0 ≤ y) (y1 : y < 4294967296) (h0 : (a == 4294967232) = false) (h1 : (a == 4294967236) = false) (h2 : (a == 4294967240) = false) (h3 : (a == 4294967244) = false) (h4 : (a == 4294967248) = false) (h5 : (a == 4294967252) = false) (h6 : (a == 4294967256) = false) :
 Calls Tryz.prog 37 #[.pointer (some ⟨v.b, 0, none⟩), .agg #[.int .i64 1, .int .u32 a, .int .u32 y]] w fun e w' => e = .returned (.tuple #[.int .u32 0, .int .i64 1]) ∧ ∃ v', BusAt w' base v' x ∧ Moves w w' v v' := by
 have hmf := hmf_all
 have H0 := hid h0
 have H1 := hid h1
 have H2 := hid h2
 have H3 := hid h3
 have H4 := hid h4
 have H5 := hid h5
 have H6 := hid h6
 clear h0 h1 h2 h3 h4 h5 h6
 go_enter Tryz.func37, Tryz.ntmps37
 go_upto_region 1 with fail
 have k0 := Blk.new w #[.int .i64 1, .int .u32 a, .int .u32 y] 96
 have kb : Below w.heap.size w (w.alloc (.cells #[.int .i64 1, .int .u32 a, .int .u32 y] 96)) := (Below.refl _ _).alloc (Nat.le_refl _) _
 have kl : w.heap.size < (w.alloc (.cells #[.int .i64 1, .int .u32 a, .int .u32 y] 96)).heap.size := by simp
 have B1 := B.below kb
 generalize w.alloc (.cells #[.int .i64 1, .int .u32 a, .int .u32 y] 96) = W at k0 kb kl B1 ⊢
 have e0 := k0.cell 0
 have e1 := k0.cell 1
 have e2 := k0.cell 2
 simp only [lD, lE, lF] at e0 e1 e2
 have KB := hid kb
 have K0 := hid k0
 have HB1 := hid B1
 clear kb k0 B1
 go_upto_region 20 with (go_at_call 55; refine (bdev_none HB1.out a H0.out H1.out H2.out H3.out H4.out H5.out H6.out).mono ?_; rintro e w1 ⟨rfl, hb1⟩; have hst := store_new_dev w1 #[.nilFunc, .nilFunc] #[.nilFunc, .nilFunc] 125 rfl rfl (dev_one rfl rfl); have HB2 := hid (HB1.out.below hb1); have HBB := hid hb1; have K2 := hid (K0.out.step hb1); clear hb1)
 have hz : Below w1.heap.size w1 (w1.alloc (.cells #[.nilFunc, .nilFunc] 125)) := (Below.refl _ _).alloc (Nat.le_refl _) _
 have B3 := HB2.out.below hz
 have e4 := (K2.out.step hz).cell 2
 simp only [lD, lE, lF] at e4
 have D2 := Blk.new w1 #[.nilFunc, .nilFunc] 125
 have MM := hid ((KB.out.trans (HBB.out.mono KB.out.size)).trans (hz.mono (Nat.le_trans KB.out.size HBB.out.size)))
 clear hz hst HBB HB2 K2
 generalize w1.alloc (.cells #[.nilFunc, .nilFunc] 125) = W2 at *
 have d0 := D2.cell 0
 have d1 := D2.cell 1
 simp only [lD, lE, lF] at d0 d1
 have HB3 := hid B3
 clear B3 D2
 go_wp2_with fail
 go_ret2
 exact ⟨rfl, v, B.moves MM.out⟩
set_option maxRecDepth 20000 in
theorem bst_timer (B : BusAt w base v x) (y : Int) (y0 : 0 ≤ y) (y1 : y < 4294967296)  :
 Calls Tryz.prog 37 #[.pointer (some ⟨v.b, 0, none⟩), .agg #[.int .i64 3, .int .u32 4294967232, .int .u32 y]] w fun e w' => e = .returned (.tuple #[.int .u32 0, .int .i64 1]) ∧ ∃ v', BusAt w' base v' x ∧ Moves w w' v v' := by
 have hmf := hmf_all
 go_enter Tryz.func37, Tryz.ntmps37
 go_upto_region 1 with fail
 have k0 := Blk.new w #[.int .i64 3, .int .u32 4294967232, .int .u32 y] 96
 have kb : Below w.heap.size w (w.alloc (.cells #[.int .i64 3, .int .u32 4294967232, .int .u32 y] 96)) := (Below.refl _ _).alloc (Nat.le_refl _) _
 have kl : w.heap.size < (w.alloc (.cells #[.int .i64 3, .int .u32 4294967232, .int .u32 y] 96)).heap.size := by simp
 have B1 := B.below kb
 generalize w.alloc (.cells #[.int .i64 3, .int .u32 4294967232, .int .u32 y] 96) = W at k0 kb kl B1 ⊢
 have e0 := k0.cell 0
 have e1 := k0.cell 1
 have e2 := k0.cell 2
 simp only [lD, lE, lF] at e0 e1 e2
 have KB := hid kb
 have K0 := hid k0
 have HB1 := hid B1
 clear kb k0 B1
 go_upto_region 24 with (go_at_call 55; refine (bdev_timer HB1.out).mono ?_; rintro e w1 ⟨g, rfl, hg, hb1⟩; have hst := store_new_dev w1 #[.nilFunc, .nilFunc] #[(.func (.func 96) #[] #[.pointer (some ⟨g, 0, none⟩)]), .nilFunc] 125 rfl rfl (dev_one rfl rfl); have HB2 := hid (HB1.out.below hb1); have HBB := hid hb1; have K2 := hid (K0.out.step hb1); clear hb1)
 have hz : Below w1.heap.size w1 (w1.alloc (.cells #[(.func (.func 96) #[] #[.pointer (some ⟨g, 0, none⟩)]), .nilFunc] 125)) := (Below.refl _ _).alloc (Nat.le_refl _) _
 have hg2 := (Touch.of_below hz []).cell hg (by simp)
 have B3 := HB2.out.below hz
 have e4 := (K2.out.step hz).cell 2
 simp only [lD, lE, lF] at e4
 have D2 := Blk.new w1 #[(.func (.func 96) #[] #[.pointer (some ⟨g, 0, none⟩)]), .nilFunc] 125
 have MM := hid ((KB.out.trans (HBB.out.mono KB.out.size)).trans (hz.mono (Nat.le_trans KB.out.size HBB.out.size)))
 clear hz hst HBB HB2 K2 hg
 generalize w1.alloc (.cells #[(.func (.func 96) #[] #[.pointer (some ⟨g, 0, none⟩)]), .nilFunc] 125) = W2 at *
 have d0 := D2.cell 0
 have d1 := D2.cell 1
 simp only [lD, lE, lF] at d0 d1
 have HB3 := hid B3
 clear B3 D2
 go_wp2_with fail
 go_ret2
 exact ⟨rfl, v, B.moves MM.out⟩
set_option maxRecDepth 20000 in
theorem bst_data0 (B : BusAt w base v x) (y : Int) (y0 : 0 ≤ y) (y1 : y < 4294967296) (ho : ¬ x.o.length < 65536) :
 Calls Tryz.prog 37 #[.pointer (some ⟨v.b, 0, none⟩), .agg #[.int .i64 3, .int .u32 4294967236, .int .u32 y]] w fun e w' => e = .returned (.tuple #[.int .u32 0, .int .i64 0]) ∧ ∃ v', BusAt w' base v' x ∧ Moves w w' v v' := by
 have hmf := hmf_all
 have HO := hid ho
 clear ho
 go_enter Tryz.func37, Tryz.ntmps37
 go_upto_region 1 with fail
 have k0 := Blk.new w #[.int .i64 3, .int .u32 4294967236, .int .u32 y] 96
 have kb : Below w.heap.size w (w.alloc (.cells #[.int .i64 3, .int .u32 4294967236, .int .u32 y] 96)) := (Below.refl _ _).alloc (Nat.le_refl _) _
 have kl : w.heap.size < (w.alloc (.cells #[.int .i64 3, .int .u32 4294967236, .int .u32 y] 96)).heap.size := by simp
 have B1 := B.below kb
 generalize w.alloc (.cells #[.int .i64 3, .int .u32 4294967236, .int .u32 y] 96) = W at k0 kb kl B1 ⊢
 have e0 := k0.cell 0
 have e1 := k0.cell 1
 have e2 := k0.cell 2
 simp only [lD, lE, lF] at e0 e1 e2
 have KB := hid kb
 have K0 := hid k0
 have HB1 := hid B1
 clear kb k0 B1
 go_upto_region 24 with (go_at_call 55; refine (bdev_data HB1.out).mono ?_; rintro e w1 ⟨rfl, hb1⟩; have hst := store_new_dev w1 #[.nilFunc, .nilFunc] #[(.func (.func 74) #[.pointer (some ⟨v.b, 0, none⟩)] #[]), (.func (.func 75) #[.pointer (some ⟨v.b, 0, none⟩)] #[])] 125 rfl rfl (dev_one rfl rfl); have HB2 := hid (HB1.out.below hb1); have HBB := hid hb1; have K2 := hid (K0.out.step hb1); clear hb1)
 have hz : Below w1.heap.size w1 (w1.alloc (.cells #[(.func (.func 74) #[.pointer (some ⟨v.b, 0, none⟩)] #[]), (.func (.func 75) #[.pointer (some ⟨v.b, 0, none⟩)] #[])] 125)) := (Below.refl _ _).alloc (Nat.le_refl _) _
 have B3 := HB2.out.below hz
 have e4 := (K2.out.step hz).cell 2
 simp only [lD, lE, lF] at e4
 have D2 := Blk.new w1 #[(.func (.func 74) #[.pointer (some ⟨v.b, 0, none⟩)] #[]), (.func (.func 75) #[.pointer (some ⟨v.b, 0, none⟩)] #[])] 125
 have MM := hid ((KB.out.trans (HBB.out.mono KB.out.size)).trans (hz.mono (Nat.le_trans KB.out.size HBB.out.size)))
 clear hz hst HBB HB2 K2
 generalize w1.alloc (.cells #[(.func (.func 74) #[.pointer (some ⟨v.b, 0, none⟩)] #[]), (.func (.func 75) #[.pointer (some ⟨v.b, 0, none⟩)] #[])] 125) = W2 at *
 have d0 := D2.cell 0
 have d1 := D2.cell 1
 simp only [lD, lE, lF] at d0 d1
 have HB3 := hid B3
 clear B3 D2
 go_wp2_with (go_at_call 75; refine (bput_full HB3.out y HO.out).mono ?_; rintro e w3 ⟨rfl, rfl⟩)
 go_ret2
 exact ⟨rfl, v, B.moves MM.out⟩
set_option maxRecDepth 20000 in
theorem bst_data1 (B : BusAt w base v x) (y : Int) (y0 : 0 ≤ y) (y1 : y < 4294967296) (ho : x.o.length < 65536) :
 Calls Tryz.prog 37 #[.pointer (some ⟨v.b, 0, none⟩), .agg #[.int .i64 3, .int .u32 4294967236, .int .u32 y]] w fun e w' => e = .returned (.tuple #[.int .u32 0, .int .i64 0]) ∧ ∃ v', BusAt w' base v' { x with o := x.o ++ [u8Of y] } ∧ Moves w w' v v' := by
 have hmf := hmf_all
 have HO := hid ho
 clear ho
 go_enter Tryz.func37, Tryz.ntmps37
 go_upto_region 1 with fail
 have k0 := Blk.new w #[.int .i64 3, .int .u32 4294967236, .int .u32 y] 96
 have kb : Below w.heap.size w (w.alloc (.cells #[.int .i64 3, .int .u32 4294967236, .int .u32 y] 96)) := (Below.refl _ _).alloc (Nat.le_refl _) _
 have kl : w.heap.size < (w.alloc (.cells #[.int .i64 3, .int .u32 4294967236, .int .u32 y] 96)).heap.size := by simp
 have B1 := B.below kb
 generalize w.alloc (.cells #[.int .i64 3, .int .u32 4294967236, .int .u32 y] 96) = W at k0 kb kl B1 ⊢
 have e0 := k0.cell 0
 have e1 := k0.cell 1
 have e2 := k0.cell 2
 simp only [lD, lE, lF] at e0 e1 e2
 have KB := hid kb
 have K0 := hid k0
 have HB1 := hid B1
 clear kb k0 B1
 go_upto_region 24 with (go_at_call 55; refine (bdev_data HB1.out).mono ?_; rintro e w1 ⟨rfl, hb1⟩; have hst := store_new_dev w1 #[.nilFunc, .nilFunc] #[(.func (.func 74) #[.pointer (some ⟨v.b, 0, none⟩)] #[]), (.func (.func 75) #[.pointer (some ⟨v.b, 0, none⟩)] #[])] 125 rfl rfl (dev_one rfl rfl); have HB2 := hid (HB1.out.below hb1); have HBB := hid hb1; have K2 := hid (K0.out.step hb1); clear hb1)
 have hz : Below w1.heap.size w1 (w1.alloc (.cells #[(.func (.func 74) #[.pointer (some ⟨v.b, 0, none⟩)] #[]), (.func (.func 75) #[.pointer (some ⟨v.b, 0, none⟩)] #[])] 125)) := (Below.refl _ _).alloc (Nat.le_refl _) _
 have B3 := HB2.out.below hz
 have e4 := (K2.out.step hz).cell 2
 simp only [lD, lE, lF] at e4
 have D2 := Blk.new w1 #[(.func (.func 74) #[.pointer (some ⟨v.b, 0, none⟩)] #[]), (.func (.func 75) #[.pointer (some ⟨v.b, 0, none⟩)] #[])] 125
 have MM := hid ((KB.out.trans (HBB.out.mono KB.out.size)).trans (hz.mono (Nat.le_trans KB.out.size HBB.out.size)))
 clear hz hst HBB HB2 K2
 generalize w1.alloc (.cells #[(.func (.func 74) #[.pointer (some ⟨v.b, 0, none⟩)] #[]), (.func (.func 75) #[.pointer (some ⟨v.b, 0, none⟩)] #[])] 125) = W2 at *
 have d0 := D2.cell 0
 have d1 := D2.cell 1
 simp only [lD, lE, lF] at d0 d1
 have HB3 := hid B3
 clear B3 D2
 go_wp2_with (go_at_call 75; refine (bput_yes HB3.out y y0 y1 HO.out).mono ?_; rintro e w3 ⟨rfl, v4, B4, M4⟩)
 go_ret2
 exact ⟨rfl, v4, B4, (Moves.of_below v MM.out).trans M4⟩
set_option maxRecDepth 20000 in
theorem bst_status0 (B : BusAt w base v x) (y : Int) (y0 : 0 ≤ y) (y1 : y < 4294967296) (hq : x.q = []) :
 Calls Tryz.prog 37 #[.pointer (some ⟨v.b, 0, none⟩), .agg #[.int .i64 3, .int .u32 4294967240, .int .u32 y]] w fun e w' => e = .returned (.tuple #[.int .u32 0, .int .i64 1]) ∧ ∃ v', BusAt w' base v' x ∧ Moves w w' v v' := by
 have hmf := hmf_all
 have HQ := hid hq
 clear hq
 go_enter Tryz.func37, Tryz.ntmps37
 go_upto_region 1 with fail
 have k0 := Blk.new w #[.int .i64 3, .int .u32 4294967240, .int .u32 y] 96
 have kb : Below w.heap.size w (w.alloc (.cells #[.int .i64 3, .int .u32 4294967240, .int .u32 y] 96)) := (Below.refl _ _).alloc (Nat.le_refl _) _
 have kl : w.heap.size < (w.alloc (.cells #[.int .i64 3, .int .u32 4294967240, .int .u32 y] 96)).heap.size := by simp
 have B1 := B.below kb
 generalize w.alloc (.cells #[.int .i64 3, .int .u32 4294967240, .int .u32 y] 96) = W at k0 kb kl B1 ⊢
 have e0 := k0.cell 0
 have e1 := k0.cell 1
 have e2 := k0.cell 2
 simp only [lD, lE, lF] at e0 e1 e2
 have KB := hid kb
 have K0 := hid k0
 have HB1 := hid B1
 clear kb k0 B1
 go_upto_region 24 with (go_at_call 55; refine (bdev_status0 HB1.out HQ.out).mono ?_; rintro e w1 ⟨g, rfl, hg, hb1⟩; have hst := store_new_dev w1 #[.nilFunc, .nilFunc] #[(.func (.func 96) #[] #[.pointer (some ⟨g, 0, none⟩)]), .nilFunc] 125 rfl rfl (dev_one rfl rfl); have HB2 := hid (HB1.out.below hb1); have HBB := hid hb1; have K2 := hid (K0.out.step hb1); clear hb1)
 have hz : Below w1.heap.size w1 (w1.alloc (.cells #[(.func (.func 96) #[] #[.pointer (some ⟨g, 0, none⟩)]), .nilFunc] 125)) := (Below.refl _ _).alloc (Nat.le_refl _) _
 have hg2 := (Touch.of_below hz []).cell hg (by simp)
 have B3 := HB2.out.below hz
 have e4 := (K2.out.step hz).cell 2
 simp only [lD, lE, lF] at e4
 have D2 := Blk.new w1 #[(.func (.func 96) #[] #[.pointer (some ⟨g, 0, none⟩)]), .nilFunc] 125
 have MM := hid ((KB.out.trans (HBB.out.mono KB.out.size)).trans (hz.mono (Nat.le_trans KB.out.size HBB.out.size)))
 clear hz hst HBB HB2 K2 hg
 generalize w1.alloc (.cells #[(.func (.func 96) #[] #[.pointer (some ⟨g, 0, none⟩)]), .nilFunc] 125) = W2 at *
 have d0 := D2.cell 0
 have d1 := D2.cell 1
 simp only [lD, lE, lF] at d0 d1
 have HB3 := hid B3
 clear B3 D2
 go_wp2_with fail
 go_ret2
 exact ⟨rfl, v, B.moves MM.out⟩
set_option maxRecDepth 20000 in
theorem bst_status1 (B : BusAt w base v x) (y : Int) (y0 : 0 ≤ y) (y1 : y < 4294967296) (hq : 0 < x.q.length) :
 Calls Tryz.prog 37 #[.pointer (some ⟨v.b, 0, none⟩), .agg #[.int .i64 3, .int .u32 4294967240, .int .u32 y]] w fun e w' => e = .returned (.tuple #[.int .u32 0, .int .i64 1]) ∧ ∃ v', BusAt w' base v' x ∧ Moves w w' v v' := by
 have hmf := hmf_all
 have HQ := hid hq
 clear hq
 go_enter Tryz.func37, Tryz.ntmps37
 go_upto_region 1 with fail
 have k0 := Blk.new w #[.int .i64 3, .int .u32 4294967240, .int .u32 y] 96
 have kb : Below w.heap.size w (w.alloc (.cells #[.int .i64 3, .int .u32 4294967240, .int .u32 y] 96)) := (Below.refl _ _).alloc (Nat.le_refl _) _
 have kl : w.heap.size < (w.alloc (.cells #[.int .i64 3, .int .u32 4294967240, .int .u32 y] 96)).heap.size := by simp
 have B1 := B.below kb
 generalize w.alloc (.cells #[.int .i64 3, .int .u32 4294967240, .int .u32 y] 96) = W at k0 kb kl B1 ⊢
 have e0 := k0.cell 0
 have e1 := k0.cell 1
 have e2 := k0.cell 2
 simp only [lD, lE, lF] at e0 e1 e2
 have KB := hid kb
 have K0 := hid k0
 have HB1 := hid B1
 clear kb k0 B1
 go_upto_region 24 with (go_at_call 55; refine (bdev_status1 HB1.out HQ.out).mono ?_; rintro e w1 ⟨g, rfl, hg, hb1⟩; have hst := store_new_dev w1 #[.nilFunc, .nilFunc] #[(.func (.func 96) #[] #[.pointer (some ⟨g, 0, none⟩)]), .nilFunc] 125 rfl rfl (dev_one rfl rfl); have HB2 := hid (HB1.out.below hb1); have HBB := hid hb1; have K2 := hid (K0.out.step hb1); clear hb1)
 have hz : Below w1.heap.size w1 (w1.alloc (.cells #[(.func (.func 96) #[] #[.pointer (some ⟨g, 0, none⟩)]), .nilFunc] 125)) := (Below.refl _ _).alloc (Nat.le_refl _) _
 have hg2 := (Touch.of_below hz []).cell hg (by simp)
 have B3 := HB2.out.below hz
 have e4 := (K2.out.step hz).cell 2
 simp only [lD, lE, lF] at e4
 have D2 := Blk.new w1 #[(.func (.func 96) #[] #[.pointer (some ⟨g, 0, none⟩)]), .nilFunc] 125
 have MM := hid ((KB.out.trans (HBB.out.mono KB.out.size)).trans (hz.mono (Nat.le_trans KB.out.size HBB.out.size)))
 clear hz hst HBB HB2 K2 hg
 generalize w1.alloc (.cells #[(.func (.func 96) #[] #[.pointer (some ⟨g, 0, none⟩)]), .nilFunc] 125) = W2 at *
 have d0 := D2.cell 0
 have d1 := D2.cell 1
 simp only [lD, lE, lF] at d0 d1
 have HB3 := hid B3
 clear B3 D2
 go_wp2_with fail
 go_ret2
 exact ⟨rfl, v, B.moves MM.out⟩
set_option maxRecDepth 20000 in
theorem bst_sector (B : BusAt w base v x) (y : Int) (y0 : 0 ≤ y) (y1 : y < 4294967296)  :
 Calls Tryz.prog 37 #[.pointer (some ⟨v.b, 0, none⟩), .agg #[.int .i64 3, .int .u32 4294967244, .int .u32 y]] w fun e w' => e = .returned (.tuple #[.int .u32 0, .int .i64 0]) ∧ ∃ v', BusAt w' base v' { x with se := y } ∧ Moves w w' v v' := by
 have hmf := hmf_all
 go_enter Tryz.func37, Tryz.ntmps37
 go_upto_region 1 with fail
 have k0 := Blk.new w #[.int .i64 3, .int .u32 4294967244, .int .u32 y] 96
 have kb : Below w.heap.size w (w.alloc (.cells #[.int .i64 3, .int .u32 4294967244, .int .u32 y] 96)) := (Below.refl _ _).alloc (Nat.le_refl _) _
 have kl : w.heap.size < (w.alloc (.cells #[.int .i64 3, .int .u32 4294967244, .int .u32 y] 96)).heap.size := by simp
 have B1 := B.below kb
 generalize w.alloc (.cells #[.int .i64 3, .int .u32 4294967244, .int .u32 y] 96) = W at k0 kb kl B1 ⊢
 have e0 := k0.cell 0
 have e1 := k0.cell 1
 have e2 := k0.cell 2
 simp only [lD, lE, lF] at e0 e1 e2
 have KB := hid kb
 have K0 := hid k0
 have HB1 := hid B1
 clear kb k0 B1
 go_upto_region 24 with (go_at_call 55; refine (bdev_sector HB1.out).mono ?_; rintro e w1 ⟨g, h, rfl, hg, hh, hb1⟩; have hst := store_new_dev w1 #[.nilFunc, .nilFunc] #[(.func (.func 96) #[] #[.pointer (some ⟨g, 0, none⟩)]), (.func (.func 76) #[] #[.pointer (some ⟨h, 0, none⟩)])] 125 rfl rfl (dev_one rfl rfl); have HB2 := hid (HB1.out.below hb1); have HBB := hid hb1; have K2 := hid (K0.out.step hb1); clear hb1)
 have hz : Below w1.heap.size w1 (w1.alloc (.cells #[(.func (.func 96) #[] #[.pointer (some ⟨g, 0, none⟩)]), (.func (.func 76) #[] #[.pointer (some ⟨h, 0, none⟩)])] 125)) := (Below.refl _ _).alloc (Nat.le_refl _) _
 have hg2 := (Touch.of_below hz []).cell hg (by simp)
 have hh2 := (Touch.of_below hz []).cell hh (by simp)
 have B3 := HB2.out.below hz
 have e4 := (K2.out.step hz).cell 2
 simp only [lD, lE, lF] at e4
 have D2 := Blk.new w1 #[(.func (.func 96) #[] #[.pointer (some ⟨g, 0, none⟩)]), (.func (.func 76) #[] #[.pointer (some ⟨h, 0, none⟩)])] 125
 have MM := hid ((KB.out.trans (HBB.out.mono KB.out.size)).trans (hz.mono (Nat.le_trans KB.out.size HBB.out.size)))
 clear hz hst HBB HB2 K2 hg hh
 generalize w1.alloc (.cells #[(.func (.func 96) #[] #[.pointer (some ⟨g, 0, none⟩)]), (.func (.func 76) #[] #[.pointer (some ⟨h, 0, none⟩)])] 125) = W2 at *
 have d0 := D2.cell 0
 have d1 := D2.cell 1
 simp only [lD, lE, lF] at d0 d1
 have HB3 := hid B3
 clear B3 D2
 go_wp2_with (go_at_call 76; refine (bdev1_any HB3.out h y y0 y1 hh2).mono ?_; rintro e w3 ⟨rfl, B4, M4⟩)
 go_ret2
 exact ⟨rfl, v, B4, (Moves.of_below v MM.out).trans M4⟩
set_option maxRecDepth 20000 in
theorem bst_address (B : BusAt w base v x) (y : Int) (y0 : 0 ≤ y) (y1 : y < 4294967296)  :
 Calls Tryz.prog 37 #[.pointer (some ⟨v.b, 0, none⟩), .agg #[.int .i64 3, .int .u32 4294967248, .int .u32 y]] w fun e w' => e = .returned (.tuple #[.int .u32 0, .int .i64 0]) ∧ ∃ v', BusAt w' base v' { x with ad := y } ∧ Moves w w' v v' := by
 have hmf := hmf_all
 go_enter Tryz.func37, Tryz.ntmps37
 go_upto_region 1 with fail
 have k0 := Blk.new w #[.int .i64 3, .int .u32 4294967248, .int .u32 y] 96
 have kb : Below w.heap.size w (w.alloc (.cells #[.int .i64 3, .int .u32 4294967248, .int .u32 y] 96)) := (Below.refl _ _).alloc (Nat.le_refl _) _
 have kl : w.heap.size < (w.alloc (.cells #[.int .i64 3, .int .u32 4294967248, .int .u32 y] 96)).heap.size := by simp
 have B1 := B.below kb
 generalize w.alloc (.cells #[.int .i64 3, .int .u32 4294967248, .int .u32 y] 96) = W at k0 kb kl B1 ⊢
 have e0 := k0.cell 0
 have e1 := k0.cell 1
 have e2 := k0.cell 2
 simp only [lD, lE, lF] at e0 e1 e2
 have KB := hid kb
 have K0 := hid k0
 have HB1 := hid B1
 clear kb k0 B1
 go_upto_region 24 with (go_at_call 55; refine (bdev_address HB1.out).mono ?_; rintro e w1 ⟨g, h, rfl, hg, hh, hb1⟩; have hst := store_new_dev w1 #[.nilFunc, .nilFunc] #[(.func (.func 96) #[] #[.pointer (some ⟨g, 0, none⟩)]), (.func (.func 77) #[] #[.pointer (some ⟨h, 0, none⟩)])] 125 rfl rfl (dev_one rfl rfl); have HB2 := hid (HB1.out.below hb1); have HBB := hid hb1; have K2 := hid (K0.out.step hb1); clear hb1)
 have hz : Below w1.heap.size w1 (w1.alloc (.cells #[(.func (.func 96) #[] #[.pointer (some ⟨g, 0, none⟩)]), (.func (.func 77) #[] #[.pointer (some ⟨h, 0, none⟩)])] 125)) := (Below.refl _ _).alloc (Nat.le_refl _) _
 have hg2 := (Touch.of_below hz []).cell hg (by simp)
 have hh2 := (Touch.of_below hz []).cell hh (by simp)
 have B3 := HB2.out.below hz
 have e4 := (K2.out.step hz).cell 2
 simp only [lD, lE, lF] at e4
 have D2 := Blk.new w1 #[(.func (.func 96) #[] #[.pointer (some ⟨g, 0, none⟩)]), (.func (.func 77) #[] #[.pointer (some ⟨h, 0, none⟩)])] 125
 have MM := hid ((KB.out.trans (HBB.out.mono KB.out.size)).trans (hz.mono (Nat.le_trans KB.out.size HBB.out.size)))
 clear hz hst HBB HB2 K2 hg hh
 generalize w1.alloc (.cells #[(.func (.func 96) #[] #[.pointer (some ⟨g, 0, none⟩)]), (.func (.func 77) #[] #[.pointer (some ⟨h, 0, none⟩)])] 125) = W2 at *
 have d0 := D2.cell 0
 have d1 := D2.cell 1
 simp only [lD, lE, lF] at d0 d1
 have HB3 := hid B3
 clear B3 D2
 go_wp2_with (go_at_call 77; refine (bdev2_any HB3.out h y y0 y1 hh2).mono ?_; rintro e w3 ⟨rfl, B4, M4⟩)
 go_ret2
 exact ⟨rfl, v, B4, (Moves.of_below v MM.out).trans M4⟩
set_option maxRecDepth 20000 in
theorem bst_command (B : BusAt w base v x) (y : Int) (y0 : 0 ≤ y) (y1 : y < 4294967296)  :
 Calls Tryz.prog 37 #[.pointer (some ⟨v.b, 0, none⟩), .agg #[.int .i64 3, .int .u32 4294967252, .int .u32 y]] w fun e w' => e = .returned (.tuple #[.int .u32 0, .int .i64 0]) ∧ ∃ v', BusAt w' base v' (x.cmd y) ∧ Moves w w' v v' := by
 have hmf := hmf_all
 go_enter Tryz.func37, Tryz.ntmps37
 go_upto_region 1 with fail
 have k0 := Blk.new w #[.int .i64 3, .int .u32 4294967252, .int .u32 y] 96
 have kb : Below w.heap.size w (w.alloc (.cells #[.int .i64 3, .int .u32 4294967252, .int .u32 y] 96)) := (Below.refl _ _).alloc (Nat.le_refl _) _
 have kl : w.heap.size < (w.alloc (.cells #[.int .i64 3, .int .u32 4294967252, .int .u32 y] 96)).heap.size := by simp
 have B1 := B.below kb
 generalize w.alloc (.cells #[.int .i64 3, .int .u32 4294967252, .int .u32 y] 96) = W at k0 kb kl B1 ⊢
 have e0 := k0.cell 0
 have e1 := k0.cell 1
 have e2 := k0.cell 2
 simp only [lD, lE, lF] at e0 e1 e2
 have KB := hid kb
 have K0 := hid k0
 have HB1 := hid B1
 clear kb k0 B1
 go_upto_region 24 with (go_at_call 55; refine (bdev_command HB1.out).mono ?_; rintro e w1 ⟨g, rfl, hg, hb1⟩; have hst := store_new_dev w1 #[.nilFunc, .nilFunc] #[(.func (.func 96) #[] #[.pointer (some ⟨g, 0, none⟩)]), (.func (.func 78) #[.pointer (some ⟨v.b, 0, none⟩)] #[])] 125 rfl rfl (dev_one rfl rfl); have HB2 := hid (HB1.out.below hb1); have HBB := hid hb1; have K2 := hid (K0.out.step hb1); clear hb1)
 have hz : Below w1.heap.size w1 (w1.alloc (.cells #[(.func (.func 96) #[] #[.pointer (some ⟨g, 0, none⟩)]), (.func (.func 78) #[.pointer (some ⟨v.b, 0, none⟩)] #[])] 125)) := (Below.refl _ _).alloc (Nat.le_refl _) _
 have hg2 := (Touch.of_below hz []).cell hg (by simp)
 have B3 := HB2.out.below hz
 have e4 := (K2.out.step hz).cell 2
 simp only [lD, lE, lF] at e4
 have D2 := Blk.new w1 #[(.func (.func 96) #[] #[.pointer (some ⟨g, 0, none⟩)]), (.func (.func 78) #[.pointer (some ⟨v.b, 0, none⟩)] #[])] 125
 have MM := hid ((KB.out.trans (HBB.out.mono KB.out.size)).trans (hz.mono (Nat.le_trans KB.out.size HBB.out.size)))
 clear hz hst HBB HB2 K2 hg
 generalize w1.alloc (.cells #[(.func (.func 96) #[] #[.pointer (some ⟨g, 0, none⟩)]), (.func (.func 78) #[.pointer (some ⟨v.b, 0, none⟩)] #[])] 125) = W2 at *
 have d0 := D2.cell 0
 have d1 := D2.cell 1
 simp only [lD, lE, lF] at d0 d1
 have HB3 := hid B3
 clear B3 D2
 go_wp2_with (go_at_call 78; refine (bcmd_any HB3.out y y0 y1).mono ?_; rintro e w3 ⟨rfl, v4, B4, M4⟩)
 go_ret2
 exact ⟨rfl, v4, B4, (Moves.of_below v MM.out).trans M4⟩
set_option maxRecDepth 20000 in
theorem bst_sectors (B : BusAt w base v x) (y : Int) (y0 : 0 ≤ y) (y1 : y < 4294967296)  :
 Calls Tryz.prog 37 #[.pointer (some ⟨v.b, 0, none⟩), .agg #[.int .i64 3, .int .u32 4294967256, .int .u32 y]] w fun e w' => e = .returned (.tuple #[.int .u32 0, .int .i64 1]) ∧ ∃ v', BusAt w' base v' x ∧ Moves w w' v v' := by
 have hmf := hmf_all
 go_enter Tryz.func37, Tryz.ntmps37
 go_upto_region 1 with fail
 have k0 := Blk.new w #[.int .i64 3, .int .u32 4294967256, .int .u32 y] 96
 have kb : Below w.heap.size w (w.alloc (.cells #[.int .i64 3, .int .u32 4294967256, .int .u32 y] 96)) := (Below.refl _ _).alloc (Nat.le_refl _) _
 have kl : w.heap.size < (w.alloc (.cells #[.int .i64 3, .int .u32 4294967256, .int .u32 y] 96)).heap.size := by simp
 have B1 := B.below kb
 generalize w.alloc (.cells #[.int .i64 3, .int .u32 4294967256, .int .u32 y] 96) = W at k0 kb kl B1 ⊢
 have e0 := k0.cell 0
 have e1 := k0.cell 1
 have e2 := k0.cell 2
 simp only [lD, lE, lF] at e0 e1 e2
 have KB := hid kb
 have K0 := hid k0
 have HB1 := hid B1
 clear kb k0 B1
 go_upto_region 24 with (go_at_call 55; refine (bdev_sectors HB1.out).mono ?_; rintro e w1 ⟨g, rfl, hg, hb1⟩; have hst := store_new_dev w1 #[.nilFunc, .nilFunc] #[(.func (.func 96) #[] #[.pointer (some ⟨g, 0, none⟩)]), .nilFunc] 125 rfl rfl (dev_one rfl rfl); have HB2 := hid (HB1.out.below hb1); have HBB := hid hb1; have K2 := hid (K0.out.step hb1); clear hb1)
 have hz : Below w1.heap.size w1 (w1.alloc (.cells #[(.func (.func 96) #[] #[.pointer (some ⟨g, 0, none⟩)]), .nilFunc] 125)) := (Below.refl _ _).alloc (Nat.le_refl _) _
 have hg2 := (Touch.of_below hz []).cell hg (by simp)
 have B3 := HB2.out.below hz
 have e4 := (K2.out.step hz).cell 2
 simp only [lD, lE, lF] at e4
 have D2 := Blk.new w1 #[(.func (.func 96) #[] #[.pointer (some ⟨g, 0, none⟩)]), .nilFunc] 125
 have MM := hid ((KB.out.trans (HBB.out.mono KB.out.size)).trans (hz.mono (Nat.le_trans KB.out.size HBB.out.size)))
 clear hz hst HBB HB2 K2 hg
 generalize w1.alloc (.cells #[(.func (.func 96) #[] #[.pointer (some ⟨g, 0, none⟩)]), .nilFunc] 125) = W2 at *
 have d0 := D2.cell 0
 have d1 := D2.cell 1
 simp only [lD, lE, lF] at d0 d1
 have HB3 := hid B3
 clear B3 D2
 go_wp2_with fail
 go_ret2
 exact ⟨rfl, v, B.moves MM.out⟩
set_option maxRecDepth 20000 in
theorem bst_none (B : BusAt w base v x) (a : Int) (a0 : 0 ≤ a) (a1 : a < 4294967296) (ha : decide (a < 1048576) = false) (y : Int) (y0 : 0 ≤ y) (y1 : y < 4294967296) (h0 : (a == 4294967232) = false) (h1 : (a == 4294967236) = false) (h2 : (a == 4294967240) = false) (h3 : (a == 4294967244) = false) (h4 : (a == 4294967248) = false) (h5 : (a == 4294967252) = false) (h6 : (a == 4294967256) = false) :
 Calls Tryz.prog 37 #[.pointer (some ⟨v.b, 0, none⟩), .agg #[.int .i64 3, .int .u32 a, .int .u32 y]] w fun e w' => e = .returned (.tuple #[.int .u32 0, .int .i64 1]) ∧ ∃ v', BusAt w' base v' x ∧ Moves w w' v v' := by
 have hmf := hmf_all
 have H0 := hid h0
 have H1 := hid h1
 have H2 := hid h2
 have H3 := hid h3
 have H4 := hid h4
 have H5 := hid h5
 have H6 := hid h6
 clear h0 h1 h2 h3 h4 h5 h6
 go_enter Tryz.func37, Tryz.ntmps37
 go_upto_region 1 with fail
 have k0 := Blk.new w #[.int .i64 3, .int .u32 a, .int .u32 y] 96
 have kb : Below w.heap.size w (w.alloc (.cells #[.int .i64 3, .int .u32 a, .int .u32 y] 96)) := (Below.refl _ _).alloc (Nat.le_refl _) _
 have kl : w.heap.size < (w.alloc (.cells #[.int .i64 3, .int .u32 a, .int .u32 y] 96)).heap.size := by simp
 have B1 := B.below kb
 generalize w.alloc (.cells #[.int .i64 3, .int .u32 a, .int .u32 y] 96) = W at k0 kb kl B1 ⊢
 have e0 := k0.cell 0
 have e1 := k0.cell 1
 have e2 := k0.cell 2
 simp only [lD, lE, lF] at e0 e1 e2
 have KB := hid kb
 have K0 := hid k0
 have HB1 := hid B1
 clear kb k0 B1
 go_upto_region 24 with (go_at_call 55; refine (bdev_none HB1.out a H0.out H1.out H2.out H3.out H4.out H5.out H6.out).mono ?_; rintro e w1 ⟨rfl, hb1⟩; have hst := store_new_dev w1 #[.nilFunc, .nilFunc] #[.nilFunc, .nilFunc] 125 rfl rfl (dev_one rfl rfl); have HB2 := hid (HB1.out.below hb1); have HBB := hid hb1; have K2 := hid (K0.out.step hb1); clear hb1)
 have hz : Below w1.heap.size w1 (w1.alloc (.cells #[.nilFunc, .nilFunc] 125)) := (Below.refl _ _).alloc (Nat.le_refl _) _
 have B3 := HB2.out.below hz
 have e4 := (K2.out.step hz).cell 2
 simp only [lD, lE, lF] at e4
 have D2 := Blk.new w1 #[.nilFunc, .nilFunc] 125
 have MM := hid ((KB.out.trans (HBB.out.mono KB.out.size)).trans (hz.mono (Nat.le_trans KB.out.size HBB.out.size)))
 clear hz hst HBB HB2 K2
 generalize w1.alloc (.cells #[.nilFunc, .nilFunc] 125) = W2 at *
 have d0 := D2.cell 0
 have d1 := D2.cell 1
 simp only [lD, lE, lF] at d0 d1
 have HB3 := hid B3
 clear B3 D2
 go_wp2_with fail
 go_ret2
 exact ⟨rfl, v, B.moves MM.out⟩
theorem bload_any (B : BusAt w base v x) (a y : Int) (a0 : 0 ≤ a) (a1 : a < 4294967296) (y0 : 0 ≤ y) (y1 : y < 4294967296) (ha : ¬ a < 1048576) :
 Calls Tryz.prog 37 #[.pointer (some ⟨v.b, 0, none⟩), .agg #[.int .i64 1, .int .u32 a, .int .u32 y]] w fun e w' => e = .returned (.tuple #[.int .u32 (x.load a).1, .int .i64 (x.load a).2.1]) ∧ ∃ v', BusAt w' base v' (x.load a).2.2 ∧ Moves w w' v v' := by
 by_cases h0 : a = 4294967232
 ·subst h0
  exact bld_timer B y y0 y1
 by_cases h1 : a = 4294967236
 ·subst h1
  cases hq : x.q with
  | nil => have := bld_data0 B y y0 y1 hq; unfold BS.load; simp only [hq]; exact this
  | cons c r => have := bld_data1 B y y0 y1 c r hq; unfold BS.load; simp only [hq]; exact this
 by_cases h2 : a = 4294967240
 ·subst h2
  cases hq : x.q with
  | nil => have := bld_status0 B y y0 y1 hq; unfold BS.load; simp only [hq]; exact this
  | cons c r => have := bld_status1 B y y0 y1 (by rw [hq]; simp); unfold BS.load; simp only [hq]; exact this
 by_cases h3 : a = 4294967244
 ·subst h3
  exact bld_sector B y y0 y1
 by_cases h4 : a = 4294967248
 ·subst h4
  exact bld_address B y y0 y1
 by_cases h5 : a = 4294967252
 ·subst h5
  exact bld_command B y y0 y1
 by_cases h6 : a = 4294967256
 ·subst h6
  exact bld_sectors B y y0 y1
 have := bld_none B a a0 a1 (decide_eq_false ha) y y0 y1 (beq_eq_false_iff_ne.2 h0) (beq_eq_false_iff_ne.2 h1) (beq_eq_false_iff_ne.2 h2) (beq_eq_false_iff_ne.2 h3) (beq_eq_false_iff_ne.2 h4) (beq_eq_false_iff_ne.2 h5) (beq_eq_false_iff_ne.2 h6)
 unfold BS.load
 rw [if_neg h0, if_neg h1, if_neg h2, if_neg h3, if_neg h4, if_neg h5, if_neg h6]
 exact this
theorem bstore_any (B : BusAt w base v x) (a y : Int) (a0 : 0 ≤ a) (a1 : a < 4294967296) (y0 : 0 ≤ y) (y1 : y < 4294967296) (ha : ¬ a < 1048576) :
 Calls Tryz.prog 37 #[.pointer (some ⟨v.b, 0, none⟩), .agg #[.int .i64 3, .int .u32 a, .int .u32 y]] w fun e w' => e = .returned (.tuple #[.int .u32 (x.store a y).1, .int .i64 (x.store a y).2.1]) ∧ ∃ v', BusAt w' base v' (x.store a y).2.2 ∧ Moves w w' v v' := by
 by_cases h0 : a = 4294967232
 ·subst h0
  exact bst_timer B y y0 y1
 by_cases h1 : a = 4294967236
 ·subst h1
  by_cases ho : x.o.length < 65536
  ·have := bst_data1 B y y0 y1 ho; unfold BS.store BS.put; rw [if_pos rfl, if_pos ho]; exact this
  ·have := bst_data0 B y y0 y1 ho; unfold BS.store BS.put; rw [if_pos rfl, if_neg ho]; exact this
 by_cases h2 : a = 4294967240
 ·subst h2
  cases hq : x.q with
  | nil => exact bst_status0 B y y0 y1 hq
  | cons c r => exact bst_status1 B y y0 y1 (by rw [hq]; simp)
 by_cases h3 : a = 4294967244
 ·subst h3
  exact bst_sector B y y0 y1
 by_cases h4 : a = 4294967248
 ·subst h4
  exact bst_address B y y0 y1
 by_cases h5 : a = 4294967252
 ·subst h5
  exact bst_command B y y0 y1
 by_cases h6 : a = 4294967256
 ·subst h6
  exact bst_sectors B y y0 y1
 have := bst_none B a a0 a1 (decide_eq_false ha) y y0 y1 (beq_eq_false_iff_ne.2 h0) (beq_eq_false_iff_ne.2 h1) (beq_eq_false_iff_ne.2 h2) (beq_eq_false_iff_ne.2 h3) (beq_eq_false_iff_ne.2 h4) (beq_eq_false_iff_ne.2 h5) (beq_eq_false_iff_ne.2 h6)
 unfold BS.store
 rw [if_neg h1, if_neg h3, if_neg h4, if_neg h5]
 exact this
end
end Go.Proofs.YtgcknekhimpfkaaGreatDoor
