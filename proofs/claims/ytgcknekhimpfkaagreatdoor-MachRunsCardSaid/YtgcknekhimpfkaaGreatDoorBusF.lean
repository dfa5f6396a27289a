/- The device at an address. -/
import Derived.Test.YtgcknekhimpfkaaGreatDoorQB
import Derived.Deep.Cut
import Derived.WalkSpells
namespace Go.Proofs.YtgcknekhimpfkaaGreatDoor
open Go Go.RowKit Go.Lib Go.Proofs.YtgcknekhimpfkaaGreatDoor.Pl
open List renaming getElem_toArray → lA, getElem_cons_zero → lB, getElem_cons_succ → lC, getElem?_toArray → lD, getElem?_cons_zero → lE
set_option linter.unusedVariables false
set_option linter.unusedSimpArgs false
theorem btwo_mk (w : World) (A B : Array Value) (ta tb : TypeId) : Blk ((w.alloc (.cells A ta)).alloc (.cells B tb)) w.heap.size A ta ∧ Blk ((w.alloc (.cells A ta)).alloc (.cells B tb)) (w.heap.size + 1) B tb ∧ ((w.alloc (.cells A ta)).alloc (.cells B tb)).heap.size = w.heap.size + 2 ∧ Below w.heap.size w ((w.alloc (.cells A ta)).alloc (.cells B tb)) := by
 have h2 := Blk.new (w.alloc (.cells A ta)) B tb
 simp only [World.size_alloc] at h2
 exact ⟨(Blk.new w A ta).old _, h2, by simp, ((Below.refl _ _).alloc (Nat.le_refl _) _).alloc (by simp) _⟩
theorem exec_load_dev (ρ : Operand → Value) (dst : Option Tmp) (x : Operand) (ty' : TypeId) (pos : String) (after : Array Edge) (guard : Option (Nat × Bool)) :
 execOp ρ ⟨dst, .load 125 x, ty', pos, after, guard⟩ = (do pure (.value (← loadWhole 125 (ρ x)))) := rfl
theorem exec_store_dev (ρ : Operand → Value) (dst : Option Tmp) (x y : Operand) (ty' : TypeId) (pos : String) (after : Array Edge) (guard : Option (Nat × Bool)) :
 execOp ρ ⟨dst, .store 125 x y, ty', pos, after, guard⟩ = (do storeWhole 125 (ρ x) (ρ y); pure .skip) := rfl
theorem dev_size : (Tryz.prog.info? 125).map (·.size) = some 2 := by kernel_rfl
theorem store_dev {w : World} {g : Nat} {old cs : Array Value} {t : TypeId} (h : Blk w g old t) (ho : old.size = 2) (hs : cs.size = 2) (h1 : OneRow cs) : (storeWhole 125 (.pointer (some ⟨g, 0, none⟩)) (.agg cs)).run Tryz.prog w = .ok () (w.setRow g cs) :=
 run_storeRow h _ (by rw [hs]; exact dev_size) (ho.trans hs.symm) h1
theorem loadVar_dev {w : World} {g : Nat} {cs : Array Value} {t : TypeId} (h : Blk w g cs t) (hs : cs.size = 2) : (loadVar 125 ⟨g, 0, none⟩).run Tryz.prog w = .ok (.agg cs) w :=
 run_loadVarRow h _ _ Tryz.underlying125 rfl (by rw [hs]; exact dev_size)
theorem dev_one {a b : Value} (ha : a.oneCell' = true) (hb : b.oneCell' = true) : OneRow #[a, b] := fun x hx => by
 simp at hx
 rcases hx with rfl | rfl <;> assumption
attribute [local go_sem ↓] exec_load_dev exec_store_dev
section
variable {w : World} {base : Nat} {v : BV} {x : BS}
theorem touch_row (w : World) (g : Nat) (X : Array Value) : Touch w (w.setRow g X) [g] := ⟨rfl, rfl, rfl, by simp, fun k _ hk => setRow_other w g k X (by simpa using hk)⟩
theorem bus_setRow (B : BusAt w base v x) {g k : Nat} (hgk : g = k) (h : ∀ j ∈ brow v, j ≠ k) (X : Array Value) : BusAt (w.setRow g X) base v x := B.touch (touch_row w g X) (fun j hj hm => h j hj (by simp at hm; omega))
theorem sectors_bus (B : BusAt w base v x) : Calls Tryz.prog 79 #[.pointer (some ⟨v.d, 0, none⟩)] w fun e w' => e = .returned (.int .i64 x.N) ∧ w = w' := by
 obtain ⟨capS, c0⟩ := B.disk.c0
 go_enter Tryz.func79, Tryz.ntmps79
 go_wp2_with fail
 go_ret
 exact ⟨rfl, rfl⟩
theorem bdev_timer (B : BusAt w base v x) :
 Calls Tryz.prog 55 #[.pointer (some ⟨v.b, 0, none⟩), .int .u32 4294967232] w fun e w' => ∃ g, e = .returned (.agg #[(.func (.func 96) #[] #[.pointer (some ⟨g, 0, none⟩)]), .nilFunc]) ∧ w'.cell? ⟨g, 0, none⟩ = some (.int .u32 x.tk) ∧ Below w.heap.size w w' := by
 have hmf := hmf_all
 go_enter Tryz.func55, Tryz.ntmps55
 go_upto_region 1 with fail
 obtain ⟨k0, k1, ks, kb⟩ := btwo_mk w #[.pointer (some ⟨v.b, 0, none⟩)] #[.nilFunc, .nilFunc] 85 125
 have B1 := B.below kb
 obtain ⟨c0, c1, c2, c3, c4, c5, c6, c7⟩ := B1.cells
 have hlt := B1.row.lt
 generalize (w.alloc (.cells #[.pointer (some ⟨v.b, 0, none⟩)] 85)).alloc (.cells #[.nilFunc, .nilFunc] 125) = W at *
 have e0 := k0.cell 0
 simp only [lD, lE] at e0
 have KB := hid kb
 have K0 := hid k0
 have K1 := hid k1
 have KS := hid ks
 have hst := store_dev (cs := #[(.func (.func 96) #[] #[.pointer (some ⟨W.heap.size, 0, none⟩)]), .nilFunc]) (k1.old (.cells #[.int .u32 x.tk] 23)) rfl rfl (dev_one rfl rfl)
 have hres := loadVar_dev ((k1.old (.cells #[.int .u32 x.tk] 23)).setRow #[(.func (.func 96) #[] #[.pointer (some ⟨W.heap.size, 0, none⟩)]), .nilFunc]) rfl
 clear kb k0 k1 ks
 have b0 := B.tkb.1
 have b1 := B.tkb.2
 go_wp2_with (first | (go_at_call 73; refine (bfine_any x.tk b0 b1).mono ?_; rintro e w1 ⟨rfl, rfl⟩) )
 refine bodyPost_ret (v := .agg #[(.func (.func 96) #[] #[.pointer (some ⟨W.heap.size, 0, none⟩)]), .nilFunc]) ?_ rfl ⟨W.heap.size, rfl, ((Blk.new W _ _).farRow (by have := KS.out; omega) _).cell 0, belRow (KB.out.alloc (by have := KS.out; omega) _) (by omega) _⟩
 simp [results, Tryz.results55, asAddr, hres]
theorem bdev_data (B : BusAt w base v x) :
 Calls Tryz.prog 55 #[.pointer (some ⟨v.b, 0, none⟩), .int .u32 4294967236] w fun e w' => e = .returned (.agg #[(.func (.func 74) #[.pointer (some ⟨v.b, 0, none⟩)] #[]), (.func (.func 75) #[.pointer (some ⟨v.b, 0, none⟩)] #[])]) ∧ Below w.heap.size w w' := by
 have hmf := hmf_all
 go_enter Tryz.func55, Tryz.ntmps55
 go_upto_region 1 with fail
 obtain ⟨k0, k1, ks, kb⟩ := btwo_mk w #[.pointer (some ⟨v.b, 0, none⟩)] #[.nilFunc, .nilFunc] 85 125
 have B1 := B.below kb
 obtain ⟨c0, c1, c2, c3, c4, c5, c6, c7⟩ := B1.cells
 have hlt := B1.row.lt
 generalize (w.alloc (.cells #[.pointer (some ⟨v.b, 0, none⟩)] 85)).alloc (.cells #[.nilFunc, .nilFunc] 125) = W at *
 have e0 := k0.cell 0
 simp only [lD, lE] at e0
 have KB := hid kb
 have K0 := hid k0
 have K1 := hid k1
 have KS := hid ks
 have hst := store_dev (cs := #[(.func (.func 74) #[.pointer (some ⟨v.b, 0, none⟩)] #[]), (.func (.func 75) #[.pointer (some ⟨v.b, 0, none⟩)] #[])]) k1 rfl rfl (dev_one rfl rfl)
 have hres := loadVar_dev (k1.setRow #[(.func (.func 74) #[.pointer (some ⟨v.b, 0, none⟩)] #[]), (.func (.func 75) #[.pointer (some ⟨v.b, 0, none⟩)] #[])]) rfl
 clear kb k0 k1 ks
 go_wp2_with (first | (fail) )
 refine bodyPost_ret (v := .agg #[(.func (.func 74) #[.pointer (some ⟨v.b, 0, none⟩)] #[]), (.func (.func 75) #[.pointer (some ⟨v.b, 0, none⟩)] #[])]) ?_ rfl ⟨rfl, belRow KB.out (by omega) _⟩
 simp [results, Tryz.results55, asAddr, hres]
theorem bdev_status0 (B : BusAt w base v x) (hq : x.q = []) :
 Calls Tryz.prog 55 #[.pointer (some ⟨v.b, 0, none⟩), .int .u32 4294967240] w fun e w' => ∃ g, e = .returned (.agg #[(.func (.func 96) #[] #[.pointer (some ⟨g, 0, none⟩)]), .nilFunc]) ∧ w'.cell? ⟨g, 0, none⟩ = some (.int .u32 2) ∧ Below w.heap.size w w' := by
 have hmf := hmf_all
 go_enter Tryz.func55, Tryz.ntmps55
 go_upto_region 1 with fail
 obtain ⟨k0, k1, ks, kb⟩ := btwo_mk w #[.pointer (some ⟨v.b, 0, none⟩)] #[.nilFunc, .nilFunc] 85 125
 have B1 := B.below kb
 obtain ⟨c0, c1, c2, c3, c4, c5, c6, c7⟩ := B1.cells
 have hlt := B1.row.lt
 generalize (w.alloc (.cells #[.pointer (some ⟨v.b, 0, none⟩)] 85)).alloc (.cells #[.nilFunc, .nilFunc] 125) = W at *
 have e0 := k0.cell 0
 simp only [lD, lE] at e0
 obtain ⟨qa, qc, hv⟩ := B.inn.form
 rw [hv] at c2
 rw [hq] at c2
 simp only [List.length_nil] at c2
 clear hq hv
 have KB := hid kb
 have K0 := hid k0
 have K1 := hid k1
 have KS := hid ks
 have hst := store_dev (cs := #[(.func (.func 96) #[] #[.pointer (some ⟨W.heap.size, 0, none⟩)]), .nilFunc]) (k1.old (.cells #[.int .u32 2] 23)) rfl rfl (dev_one rfl rfl)
 have hres := loadVar_dev ((k1.old (.cells #[.int .u32 2] 23)).setRow #[(.func (.func 96) #[] #[.pointer (some ⟨W.heap.size, 0, none⟩)]), .nilFunc]) rfl
 clear kb k0 k1 ks
 have b0 := (show (0 : Int) ≤ 2 ∧ (2 : Int) < 4294967296 by omega).1
 have b1 := (show (0 : Int) ≤ 2 ∧ (2 : Int) < 4294967296 by omega).2
 go_wp2_with (first | (go_at_call 73; refine (bfine_any 2 b0 b1).mono ?_; rintro e w1 ⟨rfl, rfl⟩) )
 refine bodyPost_ret (v := .agg #[(.func (.func 96) #[] #[.pointer (some ⟨W.heap.size, 0, none⟩)]), .nilFunc]) ?_ rfl ⟨W.heap.size, rfl, ((Blk.new W _ _).farRow (by have := KS.out; omega) _).cell 0, belRow (KB.out.alloc (by have := KS.out; omega) _) (by omega) _⟩
 simp [results, Tryz.results55, asAddr, hres]
theorem bdev_status1 (B : BusAt w base v x) (hq : 0 < x.q.length) :
 Calls Tryz.prog 55 #[.pointer (some ⟨v.b, 0, none⟩), .int .u32 4294967240] w fun e w' => ∃ g, e = .returned (.agg #[(.func (.func 96) #[] #[.pointer (some ⟨g, 0, none⟩)]), .nilFunc]) ∧ w'.cell? ⟨g, 0, none⟩ = some (.int .u32 3) ∧ Below w.heap.size w w' := by
 have hmf := hmf_all
 go_enter Tryz.func55, Tryz.ntmps55
 go_upto_region 1 with fail
 obtain ⟨k0, k1, ks, kb⟩ := btwo_mk w #[.pointer (some ⟨v.b, 0, none⟩)] #[.nilFunc, .nilFunc] 85 125
 have B1 := B.below kb
 obtain ⟨c0, c1, c2, c3, c4, c5, c6, c7⟩ := B1.cells
 have hlt := B1.row.lt
 generalize (w.alloc (.cells #[.pointer (some ⟨v.b, 0, none⟩)] 85)).alloc (.cells #[.nilFunc, .nilFunc] 125) = W at *
 have e0 := k0.cell 0
 simp only [lD, lE] at e0
 obtain ⟨qa, qc, hv⟩ := B.inn.form
 rw [hv] at c2
 clear hv
 have hq1 : (0 : Int) < x.q.length := by omega
 have KB := hid kb
 have K0 := hid k0
 have K1 := hid k1
 have KS := hid ks
 have hst := store_dev (cs := #[(.func (.func 96) #[] #[.pointer (some ⟨W.heap.size, 0, none⟩)]), .nilFunc]) (k1.old (.cells #[.int .u32 3] 23)) rfl rfl (dev_one rfl rfl)
 have hres := loadVar_dev ((k1.old (.cells #[.int .u32 3] 23)).setRow #[(.func (.func 96) #[] #[.pointer (some ⟨W.heap.size, 0, none⟩)]), .nilFunc]) rfl
 clear kb k0 k1 ks
 have b0 := (show (0 : Int) ≤ 3 ∧ (3 : Int) < 4294967296 by omega).1
 have b1 := (show (0 : Int) ≤ 3 ∧ (3 : Int) < 4294967296 by omega).2
 go_wp2_with (first | (go_at_call 73; refine (bfine_any 3 b0 b1).mono ?_; rintro e w1 ⟨rfl, rfl⟩) )
 refine bodyPost_ret (v := .agg #[(.func (.func 96) #[] #[.pointer (some ⟨W.heap.size, 0, none⟩)]), .nilFunc]) ?_ rfl ⟨W.heap.size, rfl, ((Blk.new W _ _).farRow (by have := KS.out; omega) _).cell 0, belRow (KB.out.alloc (by have := KS.out; omega) _) (by omega) _⟩
 simp [results, Tryz.results55, asAddr, hres]
theorem bdev_sector (B : BusAt w base v x) :
 Calls Tryz.prog 55 #[.pointer (some ⟨v.b, 0, none⟩), .int .u32 4294967244] w fun e w' => ∃ g h, e = .returned (.agg #[(.func (.func 96) #[] #[.pointer (some ⟨g, 0, none⟩)]), (.func (.func 76) #[] #[.pointer (some ⟨h, 0, none⟩)])]) ∧ w'.cell? ⟨g, 0, none⟩ = some (.int .u32 x.se) ∧ w'.cell? ⟨h, 0, none⟩ = some (.pointer (some ⟨v.b, 0, none⟩)) ∧ Below w.heap.size w w' := by
 have hmf := hmf_all
 go_enter Tryz.func55, Tryz.ntmps55
 go_upto_region 1 with fail
 obtain ⟨k0, k1, ks, kb⟩ := btwo_mk w #[.pointer (some ⟨v.b, 0, none⟩)] #[.nilFunc, .nilFunc] 85 125
 have B1 := B.below kb
 obtain ⟨c0, c1, c2, c3, c4, c5, c6, c7⟩ := B1.cells
 have hlt := B1.row.lt
 generalize (w.alloc (.cells #[.pointer (some ⟨v.b, 0, none⟩)] 85)).alloc (.cells #[.nilFunc, .nilFunc] 125) = W at *
 have e0 := k0.cell 0
 simp only [lD, lE] at e0
 have KB := hid kb
 have K0 := hid k0
 have K1 := hid k1
 have KS := hid ks
 have hst := store_dev (cs := #[(.func (.func 96) #[] #[.pointer (some ⟨W.heap.size, 0, none⟩)]), (.func (.func 76) #[] #[.pointer (some ⟨w.heap.size, 0, none⟩)])]) (k1.old (.cells #[.int .u32 x.se] 23)) rfl rfl (dev_one rfl rfl)
 have hres := loadVar_dev ((k1.old (.cells #[.int .u32 x.se] 23)).setRow #[(.func (.func 96) #[] #[.pointer (some ⟨W.heap.size, 0, none⟩)]), (.func (.func 76) #[] #[.pointer (some ⟨w.heap.size, 0, none⟩)])]) rfl
 clear kb k0 k1 ks
 have b0 := B.seb.1
 have b1 := B.seb.2
 go_wp2_with (first | (go_at_call 73; refine (bfine_any x.se b0 b1).mono ?_; rintro e w1 ⟨rfl, rfl⟩) )
 refine bodyPost_ret (v := .agg #[(.func (.func 96) #[] #[.pointer (some ⟨W.heap.size, 0, none⟩)]), (.func (.func 76) #[] #[.pointer (some ⟨w.heap.size, 0, none⟩)])]) ?_ rfl ⟨W.heap.size, w.heap.size, rfl, ((Blk.new W _ _).farRow (by have := KS.out; omega) _).cell 0, ((K0.out.old _).farRow (by omega) _).cell 0, belRow (KB.out.alloc (by have := KS.out; omega) _) (by omega) _⟩
 simp [results, Tryz.results55, asAddr, hres]
theorem bdev_address (B : BusAt w base v x) :
 Calls Tryz.prog 55 #[.pointer (some ⟨v.b, 0, none⟩), .int .u32 4294967248] w fun e w' => ∃ g h, e = .returned (.agg #[(.func (.func 96) #[] #[.pointer (some ⟨g, 0, none⟩)]), (.func (.func 77) #[] #[.pointer (some ⟨h, 0, none⟩)])]) ∧ w'.cell? ⟨g, 0, none⟩ = some (.int .u32 x.ad) ∧ w'.cell? ⟨h, 0, none⟩ = some (.pointer (some ⟨v.b, 0, none⟩)) ∧ Below w.heap.size w w' := by
 have hmf := hmf_all
 go_enter Tryz.func55, Tryz.ntmps55
 go_upto_region 1 with fail
 obtain ⟨k0, k1, ks, kb⟩ := btwo_mk w #[.pointer (some ⟨v.b, 0, none⟩)] #[.nilFunc, .nilFunc] 85 125
 have B1 := B.below kb
 obtain ⟨c0, c1, c2, c3, c4, c5, c6, c7⟩ := B1.cells
 have hlt := B1.row.lt
 generalize (w.alloc (.cells #[.pointer (some ⟨v.b, 0, none⟩)] 85)).alloc (.cells #[.nilFunc, .nilFunc] 125) = W at *
 have e0 := k0.cell 0
 simp only [lD, lE] at e0
 have KB := hid kb
 have K0 := hid k0
 have K1 := hid k1
 have KS := hid ks
 have hst := store_dev (cs := #[(.func (.func 96) #[] #[.pointer (some ⟨W.heap.size, 0, none⟩)]), (.func (.func 77) #[] #[.pointer (some ⟨w.heap.size, 0, none⟩)])]) (k1.old (.cells #[.int .u32 x.ad] 23)) rfl rfl (dev_one rfl rfl)
 have hres := loadVar_dev ((k1.old (.cells #[.int .u32 x.ad] 23)).setRow #[(.func (.func 96) #[] #[.pointer (some ⟨W.heap.size, 0, none⟩)]), (.func (.func 77) #[] #[.pointer (some ⟨w.heap.size, 0, none⟩)])]) rfl
 clear kb k0 k1 ks
 have b0 := B.adb.1
 have b1 := B.adb.2
 go_wp2_with (first | (go_at_call 73; refine (bfine_any x.ad b0 b1).mono ?_; rintro e w1 ⟨rfl, rfl⟩) )
 refine bodyPost_ret (v := .agg #[(.func (.func 96) #[] #[.pointer (some ⟨W.heap.size, 0, none⟩)]), (.func (.func 77) #[] #[.pointer (some ⟨w.heap.size, 0, none⟩)])]) ?_ rfl ⟨W.heap.size, w.heap.size, rfl, ((Blk.new W _ _).farRow (by have := KS.out; omega) _).cell 0, ((K0.out.old _).farRow (by omega) _).cell 0, belRow (KB.out.alloc (by have := KS.out; omega) _) (by omega) _⟩
 simp [results, Tryz.results55, asAddr, hres]
theorem bdev_command (B : BusAt w base v x) :
 Calls Tryz.prog 55 #[.pointer (some ⟨v.b, 0, none⟩), .int .u32 4294967252] w fun e w' => ∃ g, e = .returned (.agg #[(.func (.func 96) #[] #[.pointer (some ⟨g, 0, none⟩)]), (.func (.func 78) #[.pointer (some ⟨v.b, 0, none⟩)] #[])]) ∧ w'.cell? ⟨g, 0, none⟩ = some (.int .u32 x.fl) ∧ Below w.heap.size w w' := by
 have hmf := hmf_all
 go_enter Tryz.func55, Tryz.ntmps55
 go_upto_region 1 with fail
 obtain ⟨k0, k1, ks, kb⟩ := btwo_mk w #[.pointer (some ⟨v.b, 0, none⟩)] #[.nilFunc, .nilFunc] 85 125
 have B1 := B.below kb
 obtain ⟨c0, c1, c2, c3, c4, c5, c6, c7⟩ := B1.cells
 have hlt := B1.row.lt
 generalize (w.alloc (.cells #[.pointer (some ⟨v.b, 0, none⟩)] 85)).alloc (.cells #[.nilFunc, .nilFunc] 125) = W at *
 have e0 := k0.cell 0
 simp only [lD, lE] at e0
 have KB := hid kb
 have K0 := hid k0
 have K1 := hid k1
 have KS := hid ks
 have hst := store_dev (cs := #[(.func (.func 96) #[] #[.pointer (some ⟨W.heap.size, 0, none⟩)]), (.func (.func 78) #[.pointer (some ⟨v.b, 0, none⟩)] #[])]) (k1.old (.cells #[.int .u32 x.fl] 23)) rfl rfl (dev_one rfl rfl)
 have hres := loadVar_dev ((k1.old (.cells #[.int .u32 x.fl] 23)).setRow #[(.func (.func 96) #[] #[.pointer (some ⟨W.heap.size, 0, none⟩)]), (.func (.func 78) #[.pointer (some ⟨v.b, 0, none⟩)] #[])]) rfl
 clear kb k0 k1 ks
 have b0 := B.flb.1
 have b1 := B.flb.2
 clear hst hres e0 c0 c1 c2 c3 c4 c5 c6 c7
 go_upto_region 16 with fail
 have JB : Hid (Below w.heap.size w W.drew) := hid (KB.out.drew)
 have J0 : Hid (Blk W.drew w.heap.size #[.pointer (some ⟨v.b, 0, none⟩)] 85) := hid (K0.out)
 have J1 : Hid (∃ cs, cs.size = 2 ∧ Blk W.drew (w.heap.size + 1) cs 125) := hid (⟨_, rfl, K1.out⟩)
 have Jx : Hid (BusAt W.drew base v x) := hid (B1.drew 1)
 refine wp_region_held_drew (S := (fun w' => Hid (Below w.heap.size w w') ∧ Hid (Blk w' w.heap.size #[.pointer (some ⟨v.b, 0, none⟩)] 85) ∧ Hid (∃ cs, cs.size = 2 ∧ Blk w' (w.heap.size + 1) cs 125) ∧ Hid (BusAt w' base v x))) (by kernel_rfl) ⟨JB, J0, J1, Jx⟩ (fun hHeld => ?_)
 clear hHeld
 generalize W.drew = wd at JB J0 J1 Jx ⊢
 have hHeld : ((fun w' => Hid (Below w.heap.size w w') ∧ Hid (Blk w' w.heap.size #[.pointer (some ⟨v.b, 0, none⟩)] 85) ∧ Hid (∃ cs, cs.size = 2 ∧ Blk w' (w.heap.size + 1) cs 125) ∧ Hid (BusAt w' base v x)) wd) := ⟨JB, J0, J1, Jx⟩
 refine tke 0 (v := ?v0_1) ?hy0_1 (by assumption) ?rest0_1
 case hy0_1 => rintro wq ⟨qB, q0, q1, qx⟩; have z0 := q0.out.cell 0; simp only [lD, lE] at z0; obtain ⟨-, -, -, -, -, -, -, z7⟩ := qx.out.cells; clear qB q0 q1 qx; go_simp; try with_reducible rfl
 refine tke 1 (v := ?v1_2) ?hy1_2 (by assumption) ?rest1_2
 case hy1_2 => rintro wq ⟨qB, q0, q1, qx⟩; have z0 := q0.out.cell 0; simp only [lD, lE] at z0; obtain ⟨-, -, -, -, -, -, -, z7⟩ := qx.out.cells; clear qB q0 q1 qx; go_simp; try with_reducible rfl
 refine tke 2 (v := ?v2_3) ?hy2_3 (by assumption) ?rest2_3
 case hy2_3 => rintro wq ⟨qB, q0, q1, qx⟩; have z0 := q0.out.cell 0; simp only [lD, lE] at z0; obtain ⟨-, -, -, -, -, -, -, z7⟩ := qx.out.cells; clear qB q0 q1 qx; go_simp; try with_reducible rfl
 refine tke 3 (v := ?v3_4) ?hy3_4 (by assumption) ?rest3_4
 case hy3_4 => rintro wq ⟨qB, q0, q1, qx⟩; have z0 := q0.out.cell 0; simp only [lD, lE] at z0; obtain ⟨-, -, -, -, -, -, -, z7⟩ := qx.out.cells; clear qB q0 q1 qx; go_simp; try with_reducible rfl
 refine tke 5 (v := ?v5_5) ?hy5_5 (by assumption) ?rest5_5
 case hy5_5 => rintro wq ⟨qB, q0, q1, qx⟩; have z0 := q0.out.cell 0; simp only [lD, lE] at z0; obtain ⟨-, -, -, -, -, -, -, z7⟩ := qx.out.cells; clear qB q0 q1 qx; go_simp; try with_reducible rfl
 refine tke 6 (v := ?v6_6) ?hy6_6 (by assumption) ?rest6_6
 case hy6_6 => rintro wq ⟨qB, q0, q1, qx⟩; have z0 := q0.out.cell 0; simp only [lD, lE] at z0; obtain ⟨-, -, -, -, -, -, -, z7⟩ := qx.out.cells; clear qB q0 q1 qx; go_simp; try with_reducible rfl
 refine wpAnyH_ready (rs := [4]) (by kernel_rfl) (by simp) ?_
 refine (AllReadyH.cons (o := _) rfl (fun K hK => ?_) AllReadyH.nil)
 try simp only [lA, lB, lC]
 go_simp
 go_at_call 73
 refine (bfine_any x.fl b0 b1).mono ?_
 rintro e w1 ⟨rfl, rfl⟩
 obtain ⟨cs, hcs, hk1⟩ := J1.out
 have LB := hid (JB.out.alloc (o := .cells #[.int .u32 x.fl] 23) JB.out.size)
 have L0 := hid (J0.out.old (.cells #[.int .u32 x.fl] 23))
 have hk2 := hk1.old (.cells #[.int .u32 x.fl] 23)
 have L1 : Hid (∃ cs, cs.size = 2 ∧ Blk (wd.alloc (.cells #[.int .u32 x.fl] 23)) (w.heap.size + 1) cs 125) := ⟨cs, hcs, hk2⟩
 have Lx := hid (Jx.out.below ((Below.refl _ _).alloc (Nat.le_refl _) (.cells #[.int .u32 x.fl] 23)))
 have hHeld := (⟨LB, L0, L1, Lx⟩ : ((fun w' => Hid (Below w.heap.size w w') ∧ Hid (Blk w' w.heap.size #[.pointer (some ⟨v.b, 0, none⟩)] 85) ∧ Hid (∃ cs, cs.size = 2 ∧ Blk w' (w.heap.size + 1) cs 125) ∧ Hid (BusAt w' base v x)) (wd.alloc (.cells #[.int .u32 x.fl] 23))))
 refine hK.out _ _ hHeld (fun _ => ?_)
 try simp only [lA, lB, lC]
 refine tke 7 (v := ?v7_7) ?hy7_7 (by assumption) ?rest7_7
 case hy7_7 => rintro wq ⟨qB, q0, q1, qx⟩; clear qB q0 q1 qx; go_simp; try with_reducible rfl
 have hst := store_dev (cs := #[(.func (.func 96) #[] #[.pointer (some ⟨wd.heap.size, 0, none⟩)]), (.func (.func 78) #[.pointer (some ⟨v.b, 0, none⟩)] #[])]) hk2 hcs rfl (dev_one rfl rfl)
 have hres := loadVar_dev (hk2.setRow #[(.func (.func 96) #[] #[.pointer (some ⟨wd.heap.size, 0, none⟩)]), (.func (.func 78) #[.pointer (some ⟨v.b, 0, none⟩)] #[])]) rfl
 refine wpAnyH_ready (rs := [8]) (by kernel_rfl) (by simp) ?_
 refine (AllReadyH.cons (o := _) rfl (fun K hK => ?_) AllReadyH.nil)
 try simp only [lA, lB, lC]
 go_simp
 have hsz := JB.out.size
 have hx : ∀ g ∈ brow v, g ≠ w.heap.size + 1 := fun g hg => by have := (B.lt g hg).2; omega
 refine hK.out _ _ ⟨hid (belRow LB.out (by omega) _), hid (L0.out.farRow (by omega) _), hid ⟨_, rfl, hk2.setRow _⟩, hid (bus_setRow Lx.out (by omega) hx _)⟩ (fun _ => ?_)
 try simp only [lA, lB, lC]
 refine wpAnyH_done (by kernel_rfl) ?_ _
 go_wp2_with fail
 refine bodyPost_ret (v := .agg #[(.func (.func 96) #[] #[.pointer (some ⟨wd.heap.size, 0, none⟩)]), (.func (.func 78) #[.pointer (some ⟨v.b, 0, none⟩)] #[])]) ?_ rfl ⟨wd.heap.size, rfl, ((Blk.new wd _ _).farRow (by have := (Array.getElem?_eq_some_iff.1 hk1).1; omega) _).cell 0, belRow LB.out (by omega) _⟩
 simp [results, Tryz.results55, asAddr, hres]
theorem bdev_sectors (B : BusAt w base v x) :
 Calls Tryz.prog 55 #[.pointer (some ⟨v.b, 0, none⟩), .int .u32 4294967256] w fun e w' => ∃ g, e = .returned (.agg #[(.func (.func 96) #[] #[.pointer (some ⟨g, 0, none⟩)]), .nilFunc]) ∧ w'.cell? ⟨g, 0, none⟩ = some (.int .u32 x.N) ∧ Below w.heap.size w w' := by
 have hmf := hmf_all
 go_enter Tryz.func55, Tryz.ntmps55
 go_upto_region 1 with fail
 obtain ⟨k0, k1, ks, kb⟩ := btwo_mk w #[.pointer (some ⟨v.b, 0, none⟩)] #[.nilFunc, .nilFunc] 85 125
 have B1 := B.below kb
 obtain ⟨c0, c1, c2, c3, c4, c5, c6, c7⟩ := B1.cells
 have hlt := B1.row.lt
 generalize (w.alloc (.cells #[.pointer (some ⟨v.b, 0, none⟩)] 85)).alloc (.cells #[.nilFunc, .nilFunc] 125) = W at *
 have e0 := k0.cell 0
 simp only [lD, lE] at e0
 have hNb : (0 : Int) ≤ x.N ∧ (x.N : Int) < 4294967296 := by have := B.disk.ge; omega
 have KB := hid kb
 have K0 := hid k0
 have K1 := hid k1
 have KS := hid ks
 have hst := store_dev (cs := #[(.func (.func 96) #[] #[.pointer (some ⟨W.heap.size, 0, none⟩)]), .nilFunc]) (k1.old (.cells #[.int .u32 x.N] 23)) rfl rfl (dev_one rfl rfl)
 have hres := loadVar_dev ((k1.old (.cells #[.int .u32 x.N] 23)).setRow #[(.func (.func 96) #[] #[.pointer (some ⟨W.heap.size, 0, none⟩)]), .nilFunc]) rfl
 clear kb k0 k1 ks
 have b0 := hNb.1
 have b1 := hNb.2
 go_wp2_with (first | (go_at_call 73; refine (bfine_any x.N b0 b1).mono ?_; rintro e w1 ⟨rfl, rfl⟩) | (go_at_call 79; refine (sectors_bus B1).mono ?_; rintro e w1 ⟨rfl, rfl⟩))
 refine bodyPost_ret (v := .agg #[(.func (.func 96) #[] #[.pointer (some ⟨W.heap.size, 0, none⟩)]), .nilFunc]) ?_ rfl ⟨W.heap.size, rfl, ((Blk.new W _ _).farRow (by have := KS.out; omega) _).cell 0, belRow (KB.out.alloc (by have := KS.out; omega) _) (by omega) _⟩
 simp [results, Tryz.results55, asAddr, hres]
set_option maxRecDepth 100000 in
theorem bdev_none (B : BusAt w base v x) (a : Int) (h0 : (a == 4294967232) = false) (h1 : (a == 4294967236) = false) (h2 : (a == 4294967240) = false) (h3 : (a == 4294967244) = false) (h4 : (a == 4294967248) = false) (h5 : (a == 4294967252) = false) (h6 : (a == 4294967256) = false) :
 Calls Tryz.prog 55 #[.pointer (some ⟨v.b, 0, none⟩), .int .u32 a] w fun e w' => e = .returned (.agg #[.nilFunc, .nilFunc]) ∧ Below w.heap.size w w' := by
 have hmf := hmf_all
 go_enter Tryz.func55, Tryz.ntmps55
 go_upto_region 1 with fail
 obtain ⟨k0, k1, ks, kb⟩ := btwo_mk w #[.pointer (some ⟨v.b, 0, none⟩)] #[.nilFunc, .nilFunc] 85 125
 have B1 := B.below kb
 obtain ⟨c0, c1, c2, c3, c4, c5, c6, c7⟩ := B1.cells
 have hlt := B1.row.lt
 generalize (w.alloc (.cells #[.pointer (some ⟨v.b, 0, none⟩)] 85)).alloc (.cells #[.nilFunc, .nilFunc] 125) = W at *
 have e0 := k0.cell 0
 simp only [lD, lE] at e0
 have KB := hid kb
 have K0 := hid k0
 have K1 := hid k1
 have KS := hid ks
 have hst := store_dev (cs := #[.nilFunc, .nilFunc]) k1 rfl rfl (dev_one rfl rfl)
 have hres := loadVar_dev (k1.setRow #[.nilFunc, .nilFunc]) rfl
 clear kb k0 k1 ks
 go_wp2_with (first | (fail) )
 refine bodyPost_ret (v := .agg #[.nilFunc, .nilFunc]) ?_ rfl ⟨rfl, belRow KB.out (by omega) _⟩
 simp [results, Tryz.results55, asAddr, hres]
end
end Go.Proofs.YtgcknekhimpfkaaGreatDoor
