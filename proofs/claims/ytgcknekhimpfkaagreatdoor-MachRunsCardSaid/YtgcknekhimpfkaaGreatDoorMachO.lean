/- No machine is made of words that are none's. -/
import Derived.Test.YtgcknekhimpfkaaGreatDoorMachN
namespace Go.Proofs.YtgcknekhimpfkaaGreatDoor
open Go Go.RowKit Go.Lib Go.Proofs.YtgcknekhimpfkaaGreatDoor.Pl
set_option linter.unusedVariables false
set_option linter.unusedSimpArgs false
theorem mk_room' (c : Nat) (hc : c ≤ 35184372090000) (w : World) : (Instr.makeSlice 22 (.int .i64 0) (.int .i64 (c : Int))).run Tryz.prog w = .ok (.slice (some ⟨w.heap.size, 0, none⟩) 0 c) (w.alloc (.cells (madeCells #[.int .u32 0] c) 23)) :=
 run_make_room 22 23 (.int .u32 0) 4 Tryz.underlying22 u32_zinfo rfl .i64 .i64 c (by omega) (by omega) w
structure Lent0 (w0 wr : World) (g n : Nat) : Prop where
 below : Below w0.heap.size w0 wr
 lent : ∃ Z, Blk wr g Z 23 ∧ n ≤ Z.size
 lo : w0.heap.size ≤ g
theorem Lent0.set {w0 wr : World} {g n : Nat} (L : Lent0 w0 wr g n) (j : Nat) (u : Value) : Lent0 w0 (wr.setCell ⟨g, j, none⟩ u) g n := by
 obtain ⟨Z, h1, h2⟩ := L.lent
 exact ⟨L.below.setCell L.lo u, ⟨_, h1.set j u, by simpa using h2⟩, L.lo⟩
theorem Lent0.cell {w0 wr : World} {g n : Nat} (L : Lent0 w0 wr g n) (j : Nat) (hj : j < n) : (∃ u, wr.cell? ⟨g, j, none⟩ = some u) ∧ wr.frozen? ⟨g, j, none⟩ = false := by
 obtain ⟨Z, h1, h2⟩ := L.lent
 exact ⟨⟨Z[j]'(by omega), by rw [h1.cell j, Array.getElem?_eq_getElem (by omega)]⟩, h1.frozen j⟩
set_option maxRecDepth 100000 in
set_option maxHeartbeats 4000000 in
theorem made_bad (A : Option Addr) (n c : Nat) (ent s : Int) (w : World) (h0 : 0 ≤ ent) (h1 : ent < 4294967296) (hn : n ≤ 35184372089000) (hb : ¬ mgood n ent) (f : Nat → Int) (hr : RdI .u32 w A n f) :
 Calls Tryz.prog 5 #[.agg #[.slice A n c, .int .u32 ent, .int .i64 s]] w fun e w' => e = .returned (.tuple #[.pointer none, .int .i64 50, .pointer none, .int .i64 50]) ∧ Below w.heap.size w w' := by
 have HG := hid hb
 have HR := hid hr
 have hB0 : Below w.heap.size w (w.alloc (.cells (rstart n c A ent s) 25)) := (Below.refl _ _).alloc (Nat.le_refl _) _
 have K0 := hid (Blk.new w (rstart n c A ent s) 25)
 have HB0 := hid hB0
 obtain ⟨hs8, hs64⟩ := secN_bd s
 have hways := sec_ways s
 generalize hN : secN s = N at *
 clear hB0 hr hb hN
 go_enter Tryz.func5, Tryz.ntmps5
 go_upto_region 2 with fail
 have HWY := hid hways
 clear hways
 generalize hW0 : w.alloc (.cells #[.slice A n c, .int .u32 ent, .int .i64 s] 25) = W0 at *
 obtain ⟨q, hq⟩ : ∃ q : Bool, (decide (s < 8) || decide (64 < s)) = q := ⟨_, rfl⟩
 have HQ := hid hq
 go_cut [24] from 19 to 25 (fun s24 wx => s24 = .bool q ∧ W0 = wx)
 case first =>
  by_cases h8 : s < 8
  ·have t1 : decide (s < 8) = true := decide_eq_true h8
   have hq2 : q = true := by rw [← HQ.out, t1]; rfl
   subst hq2
   clear hq
   go_wp2_with fail
   go_meet
   exact ⟨rfl, rfl⟩
  ·have t1 : decide (s < 8) = false := decide_eq_false h8
   have hq2 : q = decide (64 < s) := by rw [← HQ.out, t1]; rfl
   subst hq2
   clear hq
   go_wp2_with fail
   go_meet
   exact ⟨rfl, rfl⟩
 case rest =>
 obtain ⟨rfl, rfl⟩ := hcut
 clear hq
 go_upto_if 24 with fail
 go_cut [6] from 24 to 25 (fun s6 wx => s6 = .int .i64 (N : Int) ∧ W0 = wx)
 case first =>
  rcases HWY.out with ⟨t1, ta, tn⟩ | ⟨t1, t2, ta, tn⟩ | ⟨t1, t2, ta, tb, tn⟩
  ·obtain rfl : N = 8 := tn
   obtain rfl : q = true := by rw [← HQ.out, t1]; rfl
   go_wp2_with fail
   go_meet
   exact ⟨rfl, rfl⟩
  ·obtain rfl : N = 8 := tn
   obtain rfl : q = true := by rw [← HQ.out, t1, t2]; rfl
   go_wp2_with fail
   go_meet
   exact ⟨rfl, rfl⟩
  ·obtain rfl : s = (N : Int) := tn.symm
   obtain rfl : q = false := by rw [← HQ.out, t1, t2]; rfl
   go_wp2_with fail
   go_meet
   exact ⟨rfl, rfl⟩
 case rest =>
 obtain ⟨rfl, rfl⟩ := hcut
 subst hW0
 clear HWY
 go_upto_region 5 with (go_at_call 9; refine (new_yes _ _ (by omega) (by omega)).mono ?_; rintro e w1 ⟨d, sl, rfl, D, hb1⟩; have HD := hid D; have HB1 := hid hb1; clear D hb1)
 have hb3 := HB1.out.size
 go_upto_region 6 with (go_at_call 13; (refine (rnew_yes N _ hs8 (by omega)).mono ?_; rintro e w2 ⟨r, vf, rfl, -, hb2⟩; have HB2 := hid hb2; clear hb2))
 have hmk : ∀ W : World, (Instr.makeSlice 22 (.int .i64 0) (.int .i64 ((n : Int) + 2))).run Tryz.prog W = .ok (.slice (some ⟨W.heap.size, 0, none⟩) 0 (n + 2)) (W.alloc (.cells (madeCells #[.int .u32 0] (n + 2)) 23)) := fun W => mk_room' (n + 2) (by omega) W
 have HW2 := hid (HB0.out.trans ((HB1.out.trans (HB2.out.mono HB1.out.size)).mono HB0.out.size))
 have KE := (K0.out.step HB1.out).step HB2.out
 have ke0 := KE.cell 0
 have ke1 := KE.cell 1
 simp only [rstart, List.getElem?_toArray, List.getElem?_cons_zero, List.getElem?_cons_succ] at ke0 ke1
 have hn2 : IntKind.i64.wrap ((n : Int) + 2) = (n : Int) + 2 := IntWalk.i64_in _ (by omega)
 have hlt2 : w.heap.size < w2.heap.size := by have := HB2.out.size; simp only [World.size_alloc] at hb3; omega
 have HS2 := hid (show ∀ W : World, Below w2.heap.size w2 W → 0 < n → ∃ b off, A = some ⟨b, off, none⟩ ∧ ∀ i, i < n → W.cell? ⟨b, off + i, none⟩ = some (.int .u32 (f i)) from fun W hW hn0 => by
  obtain ⟨b, off, hA, hlt, hc⟩ := HR.out hn0
  exact ⟨b, off, hA, fun i hi => ((HW2.out.trans (hW.mono HW2.out.size)).cell (p := ⟨b, off + i, none⟩) hlt).trans (hc i hi)⟩)
 have HT2 := hid (show ∀ W : World, W.heap[w2.heap.size]? = some (.cells (madeCells #[.int .u32 0] (n + 2)) 23 (0, 0)) → ∀ j, j < n → (W.cell? ⟨w2.heap.size, j, none⟩).isSome = true ∧ W.frozen? ⟨w2.heap.size, j, none⟩ = false from fun W hW j hj => by
  have hO : OwnI .u32 W w2.heap.size (n + 2) 23 (fun _ => 0) := ⟨_, hW, size_madeCells _ _, fun i hi => made_u32 (n + 2) i hi⟩
  exact ⟨by rw [hO.cell (by omega)]; rfl, hO.frozen j⟩)
 go_cut [11] from 35 to 43 (fun s11 wx => s11 = .slice (some ⟨w2.heap.size, 0, none⟩) n (n + 2) ∧ Hid (Below w2.heap.size w2 wx) ∧ Hid (OwnI .u32 wx w2.heap.size (n + 2) 23 (fun i => if i < n then f i else 0)))
 case first =>
  go_region_law ((refine step_fill (by rfl) _ _ (by rfl) _ n c A f (by rfl) (by rfl) (HS2.out _ (by go_grown)) (HT2.out _ (heap_alloc_new _ _)) ?_))
  all_goals
   go_wp2_with fail
   go_meet
   refine ⟨rfl, hid ?_, hid ?_⟩
   ·exact fill_below (by go_grown) (Nat.le_refl _) _
   ·exact own_fill _ _ n f (heap_alloc_new _ _)
 case rest =>
 obtain ⟨rfl, HB3, HO3⟩ := hcut
 have KF := KE.step HB3.out
 have kf0 := KF.cell 0
 have kf1 := KF.cell 1
 simp only [rstart, List.getElem?_toArray, List.getElem?_cons_zero, List.getElem?_cons_succ] at kf0 kf1
 have HWC := hid (HW2.out.trans (HB3.out.mono HW2.out.size))
 have hls : (w.alloc (.cells #[.slice A n c, .int .u32 ent, .int .i64 s] 25)).heap.size = w.heap.size + 1 := by simp
 have hb2s := HB2.out.size
 have hb3s := HB3.out.size
 have HNW := hid (mNew_bad (some ⟨w2.heap.size, 0, none⟩) n (n + 2) ent wc ⟨d, 0, none⟩ (by omega) h0 h1 HG.out)
 clear HS2 HT2 hmk hn2 ke0 ke1 K0 KE HD
 go_upto_region 8 with (go_at_call 10; refine HNW.out.mono ?_; rintro e w4 ⟨rfl, hb4⟩; have HB4 := hid hb4; clear hb4)
 clear HNW
 have KG := KF.step HB4.out
 have kg0 := KG.cell 0
 have kg1 := KG.cell 1
 simp only [rstart, List.getElem?_toArray, List.getElem?_cons_zero, List.getElem?_cons_succ] at kg0 kg1
 have HW4 := hid (HWC.out.trans (HB4.out.mono HWC.out.size))
 have HNR := hid (rmNew_bad A n c ent w4 ⟨r, 0, none⟩ (by omega) h0 h1 HG.out)
 clear KF kf0 kf1
 go_upto_region 9 with (go_at_call 14; refine HNR.out.mono ?_; rintro e w5 ⟨rfl, hb5⟩; have HB5 := hid hb5; clear hb5)
 clear HNR KG kg0 kg1
 have HL := hid (show Lent0 w w5 w2.heap.size n from
  ⟨HW4.out.trans (HB5.out.mono HW4.out.size), by
   obtain ⟨Z, h1, h2⟩ := ((HO3.out.below HB4.out HO3.out.lt).below HB5.out (Nat.lt_of_lt_of_le HO3.out.lt HB4.out.size))
   exact ⟨Z, h1, by omega⟩, HW2.out.size⟩)
 clear HB5 HB4 HW4 HWC HO3 HB3 HB2 HB1 hb2s hb3s hb3 hls HB0 HR HG HQ
 generalize w2.heap.size = g at HL ⊢
 go_wp2_with fail
 go_loopw [16] (fun i wr => ∃ k : Nat, k ≤ n ∧ i = .int .i64 k ∧ Hid (Lent0 w wr g n)) (fun i _ => n - (intOf i).toNat)
 case atStart => exact ⟨0, Nat.zero_le _, rfl, HL⟩
 case round =>
  obtain ⟨k, hk, rfl, HX⟩ := hrel
  by_cases hlt : k < n
  ·have hlt' : (k : Int) < (n : Int) := by omega
   obtain ⟨⟨u, hu⟩, hfz⟩ := HX.out.cell k hlt
   have HY := hid (HX.out.set k (.int .u32 2004318071))
   clear HX HL
   go_wp2_with fail
   go_roundw
   case rel => exact ⟨k + 1, by omega, by go_num, HY⟩
   case measure => simp [intOf]; omega
  ·obtain rfl : k = n := by omega
   go_wp2_with fail
   refine bodyPost_ret (v := .tuple #[.pointer none, .int .i64 50, .pointer none, .int .i64 50]) (by simp [results, Tryz.results5, go_sem]) rfl ⟨rfl, HX.out.below⟩
end Go.Proofs.YtgcknekhimpfkaaGreatDoor
