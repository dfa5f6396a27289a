/- The document's machine, made; both machines. -/
import Derived.Test.YtgcknekhimpfkaaGreatDoorMachN
import Derived.Test.YtgcknekhimpfkaaGreatDoorQ2
import Derived.Test.YtgcknekhimpfkaaGreatDoorQS
import Derived.Deep.RegionHeld3
import Derived.Test.YtgcknekhimpfkaaGreatDoorDiskM
import Derived.Deep.QuietTactic
import Derived.Test.YtgcknekhimpfkaaGreatDoorMachO
import Derived.Test.YtgcknekhimpfkaaGreatDoorGen
import Derived.Test.YtgcknekhimpfkaaGreatDoorCpuTab
import Derived.Deep.CutBlock
open List renaming getElem_toArray → lA, getElem_cons_zero → lB, getElem_cons_succ → lC, getElem?_toArray → lD, getElem?_cons_zero → lE, getElem?_cons_succ → lF
set_option maxHeartbeats 4000000
namespace Go.Proofs.YtgcknekhimpfkaaGreatDoor
open Go Go.RowKit Go.Lib Go.Proofs.YtgcknekhimpfkaaGreatDoor.Pl
set_option linter.unusedVariables false
set_option linter.unusedSimpArgs false
def rmrow0 (b : Nat) (ent : Int) : Array Value := #[.int .u32 0, .int .u32 0, .int .u32 0, .int .u32 0, .int .u32 0, .int .u32 0, .int .u32 0, .int .u32 0, .int .u32 0, .int .u32 0, .int .u32 0, .int .u32 0, .int .u32 0, .int .u32 0, .int .u32 0, .int .u32 0, .int .u32 0, .bool false, .bool false, .bool false, .bool false, .int .u32 ent, .pointer (some ⟨b, 0, none⟩), .int .i64 (-1), .int .i64 0]
theorem rmrow0_is (b : Nat) (ent : Int) : RMRow (rmrow0 b ent) b ⟨mcpu0 ent, -1, 0⟩ := by
 refine ⟨rfl, ?_, rfl, rfl, rfl⟩
 intro k hk
 match k, hk with
 | 0, _ => rfl
 | 1, _ => rfl
 | 2, _ => rfl
 | 3, _ => rfl
 | 4, _ => rfl
 | 5, _ => rfl
 | 6, _ => rfl
 | 7, _ => rfl
 | 8, _ => rfl
 | 9, _ => rfl
 | 10, _ => rfl
 | 11, _ => rfl
 | 12, _ => rfl
 | 13, _ => rfl
 | 14, _ => rfl
 | 15, _ => rfl
 | 16, _ => rfl
 | 17, _ => rfl
 | 18, _ => rfl
 | 19, _ => rfl
 | 20, _ => rfl
 | 21, _ => rfl
 | k + 22, h => omega
set_option maxRecDepth 100000 in
theorem rmNew_full (A : Option Addr) (n c : Nat) (ent : Int) (w : World) (h0 : 0 ≤ ent) (hb : mgood n ent) (f : Nat → Int) (hf : ∀ i, 0 ≤ f i ∧ f i < 4294967296) (hr : RdI .u32 w A n f) {base r N : Nat} {vf : Value} (hN : 8 ≤ N ∧ N ≤ 1024) (R : RefAt w base r vf (.slice none 0 0) N (fun _ => nought) []) :
 Calls Tryz.prog 14 #[.agg #[.slice A n c, .int .u32 ent], .pointer (some ⟨r, 0, none⟩)] w fun e w' => ∃ g u, e = .returned (.tuple #[.pointer (some ⟨g, 0, none⟩), .int .i64 0]) ∧ RMachAt w' base g u ⟨wordsM f n, [], [], 0, 0, 0, 0, N, fun _ => nought, []⟩ ⟨mcpu0 ent, -1, 0⟩ [] ∧ Below w.heap.size w w' ∧ (∀ k ∈ g :: rbrow u, k ∈ rrow r vf (.slice none 0 0) ∨ w.heap.size ≤ k) := by
 obtain ⟨hn, h4, h5⟩ := hb
 have t1 : decide ((262144 : Int) < n) = false := decide_eq_false (by omega)
 have t2 : (ent % 4 != 0) = false := by simpa using h4
 have t3 : decide ((1048576 : Int) ≤ ent) = false := decide_eq_false (by omega)
 have hB : Below w.heap.size w (w.alloc (.cells #[.slice A n c, .int .u32 ent] 44)) := (Below.refl _ _).alloc (Nat.le_refl _) _
 have HNW := hid (rbnew_at A n c f (w.alloc (.cells #[.slice A n c, .int .u32 ent] 44)) base r vf N (fun _ => nought) hn hf (fun hn0 => by obtain ⟨b, off, hA, hlt, hc⟩ := hr hn0; exact ⟨b, off, hA, Nat.lt_of_lt_of_le hlt hB.size, fun i hi => (hB.cell (p := ⟨b, off + i, none⟩) hlt).trans (hc i hi)⟩) (R.below hB) hN (fun _ => nought_size))
 have HBR := hid (Nat.le_trans R.br (Nat.le_of_lt R.rlt))
 have HB := hid hB
 clear hr hB R hf
 go_enter Tryz.func14, Tryz.ntmps14
 go_upto_region 6 with (go_at_call 41; refine HNW.out.mono ?_; rintro e w1 ⟨u, rfl, B, hb1, hb2⟩; have KE := ((Blk.new w #[.slice A n c, .int .u32 ent] 44).step hb1).cell 1; simp only [lD, lE, lF] at KE; have HB1 := hid hb1; have HBU := hid B; have HB2 := hid hb2; have hlt : w.heap.size < w1.heap.size := Nat.lt_of_lt_of_le (by simp) hb1.size; clear hb1 hb2 B)
 clear HNW
 obtain ⟨ub, hub⟩ : ∃ b, u.b = b := ⟨_, rfl⟩
 have HUB := hid hub
 rw [hub]
 clear hub
 go_wp2_with fail
 go_ret2
 have hB4 : Below w1.heap.size w1 (w1.alloc (.cells (rmrow0 ub ent) 61)) := (Below.refl _ _).alloc (Nat.le_refl _) _
 have hww := HB.out.trans (HB1.out.mono HB.out.size)
 have hb2 := HB2.out
 have hbr := HBR.out
 simp only [World.size_alloc] at hb2
 refine ⟨w1.heap.size, u, rfl, ⟨⟨_, Blk.new w1 (rmrow0 ub ent) _, by rw [HUB.out]; exact rmrow0_is _ _⟩, mcpu0_ok ent h0 (by omega), HBU.out.below hB4, fun hm => ?_, by omega⟩, hww.trans (hB4.mono hww.size), fun k hk => ?_⟩
 ·exact absurd (HBU.out.lt _ hm).2 (Nat.lt_irrefl _)
 ·rcases List.mem_cons.1 hk with rfl | hk
  ·exact .inr (Nat.le_of_lt hlt)
  ·rcases hb2 k hk with h | h
   ·exact .inl h
   ·exact .inr (by omega)
/-- Both machines. -/
structure MB (w0 w : World) (b1 m : Nat) (v : BV) (b2 g : Nat) (u : RV) (x z : BS) (y : MC) (yr : RMC) (hist : List (Nat × ByteArray)) : Prop where
 p : MachAt w b1 m v x y
 r : RMachAt w b2 g u z yr hist
 below : Below w0.heap.size w0 w
 l1 : w0.heap.size ≤ b1
 l2 : w0.heap.size ≤ b2
 ap : ∀ k ∈ m :: brow v, k ∉ g :: rbrow u
section
variable {w0 w w' : World} {b1 m : Nat} {v v' : BV} {b2 g : Nat} {u u' : RV} {x x' z z' : BS} {y y' : MC} {yr yr' : RMC} {hist hist' : List (Nat × ByteArray)}
theorem MachAt.lts (M : MachAt w b1 m v x y) : ∀ k ∈ m :: brow v, b1 ≤ k ∧ k < w.heap.size := fun k hk => by
 rcases List.mem_cons.1 hk with rfl | hk
 ·exact ⟨M.lo, M.mlt⟩
 ·exact M.bus.lt k hk
theorem MB.opP (T : MB w0 w b1 m v b2 g u x z y yr hist) (M : MachAt w' b1 m v' x' y') (h : MMoves w w' m v v') : MB w0 w' b1 m v' b2 g u x' z y' yr hist :=
 ⟨M, T.r.touch h.t (fun k hk hm => T.ap k hm hk), T.below.trans (h.t.below T.below.size (fun k hk => Nat.le_trans T.l1 (T.p.lts k hk).1)), T.l1, T.l2, fun k hk hn => by
  rcases List.mem_cons.1 hk with rfl | hk
  ·exact T.ap k List.mem_cons_self hn
  ·rcases h.n k hk with h1 | h1
   ·exact T.ap k (List.mem_cons_of_mem _ h1) hn
   ·have := (T.r.lts k hn).2; omega⟩
theorem MB.opR (T : MB w0 w b1 m v b2 g u x z y yr hist) (M : RMachAt w' b2 g u' z' yr' hist') (h : RMMoves w w' g u u') : MB w0 w' b1 m v b2 g u' x z' y yr' hist' :=
 ⟨T.p.touch h.t (fun hm => T.ap m List.mem_cons_self hm) (fun k hk hm => T.ap k (List.mem_cons_of_mem _ hk) hm), M, T.below.trans (h.t.below T.below.size (fun k hk => Nat.le_trans T.l2 (T.r.lts k hk).1)), T.l1, T.l2, fun k hk hn => by
  rcases List.mem_cons.1 hn with rfl | hn
  ·exact T.ap k hk List.mem_cons_self
  ·rcases h.n k hn with h1 | h1
   ·exact T.ap k hk (List.mem_cons_of_mem _ h1)
   ·have := (T.p.lts k hk).2; omega⟩
theorem MB.step (T : MB w0 w b1 m v b2 g u x z y yr hist) (h : Below w.heap.size w w') : MB w0 w' b1 m v b2 g u x z y yr hist := T.opP (T.p.step h) (MMoves.below h)
theorem MB.far (T : MB w0 w b1 m v b2 g u x z y yr hist) (k j : Nat) (a : Value) (h1 : k ∉ m :: brow v) (h2 : k ∉ g :: rbrow u) (hk : w0.heap.size ≤ k) : MB w0 (w.setCell ⟨k, j, none⟩ a) b1 m v b2 g u x z y yr hist :=
 ⟨T.p.touch (Touch.set w ⟨k, j, none⟩ a) (fun hm => h1 ((show m = k by simpa using hm) ▸ List.mem_cons_self)) (fun i hi hm => h1 (List.mem_cons_of_mem _ ((show i = k by simpa using hm) ▸ hi))), T.r.touch (Touch.set w ⟨k, j, none⟩ a) (fun i hi hm => h2 ((show i = k by simpa using hm) ▸ hi)), T.below.setCell hk _, T.l1, T.l2, T.ap⟩
end
/-- Both machines, while the words that were lent are spoilt. -/
structure LentB (w0 wr : World) (b m : Nat) (v : BV) (b2 gr : Nat) (u : RV) (x : BS) (y : MC) (yr : RMC) (g n : Nat) : Prop where
 a : MB w0 wr b m v b2 gr u x x y yr []
 lent : ∃ Z, Blk wr g Z 23 ∧ n ≤ Z.size
 gm : g ∉ m :: brow v
 gb : g ∉ gr :: rbrow u
 lo : w0.heap.size ≤ g
theorem LentB.set {w0 wr : World} {b m : Nat} {v : BV} {b2 gr : Nat} {u : RV} {x : BS} {y : MC} {yr : RMC} {g n : Nat} (L : LentB w0 wr b m v b2 gr u x y yr g n) (j : Nat) (a : Value) : LentB w0 (wr.setCell ⟨g, j, none⟩ a) b m v b2 gr u x y yr g n := by
 obtain ⟨Z, h1, h2⟩ := L.lent
 exact ⟨L.a.far g j a L.gm L.gb L.lo, ⟨_, h1.set j a, by simpa using h2⟩, L.gm, L.gb, L.lo⟩
theorem LentB.cell {w0 wr : World} {b m : Nat} {v : BV} {b2 gr : Nat} {u : RV} {x : BS} {y : MC} {yr : RMC} {g n : Nat} (L : LentB w0 wr b m v b2 gr u x y yr g n) (j : Nat) (hj : j < n) : (∃ a, wr.cell? ⟨g, j, none⟩ = some a) ∧ wr.frozen? ⟨g, j, none⟩ = false := by
 obtain ⟨Z, h1, h2⟩ := L.lent
 exact ⟨⟨Z[j]'(by omega), by rw [h1.cell j, Array.getElem?_eq_getElem (by omega)]⟩, h1.frozen j⟩
set_option maxRecDepth 100000 in
theorem made_full (A : Option Addr) (n c : Nat) (ent s : Int) (w : World) (h0 : 0 ≤ ent) (hb : mgood n ent) (f : Nat → Int) (hf : ∀ i, 0 ≤ f i ∧ f i < 4294967296) (hr : RdI .u32 w A n f) :
 Calls Tryz.prog 5 #[.agg #[.slice A n c, .int .u32 ent, .int .i64 s]] w fun e w' => ∃ b m v b2 r u, e = .returned (.tuple #[.pointer (some ⟨m, 0, none⟩), .int .i64 0, .pointer (some ⟨r, 0, none⟩), .int .i64 0]) ∧ MB w w' b m v b2 r u ⟨wordsM f n, [], [], 0, 0, 0, 0, secN s, fun _ => nought, []⟩ ⟨wordsM f n, [], [], 0, 0, 0, 0, secN s, fun _ => nought, []⟩ ⟨mcpu0 ent, -1, false, 0⟩ ⟨mcpu0 ent, -1, 0⟩ [] := by
 obtain ⟨hn, h4, h5⟩ := hb
 have HG := hid (show mgood n ent from ⟨hn, h4, h5⟩)
 have HR := hid hr
 have HF := hid hf
 have hB0 : Below w.heap.size w (w.alloc (.cells (rstart n c A ent s) 25)) := (Below.refl _ _).alloc (Nat.le_refl _) _
 have K0 := hid (Blk.new w (rstart n c A ent s) 25)
 have HB0 := hid hB0
 obtain ⟨hs8, hs64⟩ := secN_bd s
 have hways := sec_ways s
 generalize hN : secN s = N at *
 clear hB0 hr hf h4 hN
 go_enter Tryz.func5, Tryz.ntmps5
 go_upto_region 2 with fail
 have HWY := hid hways
 clear hways
 generalize hW0 : w.alloc (.cells #[.slice A n c, .int .u32 ent, .int .i64 s] 25) = W0 at *
 obtain ⟨q, hq⟩ : ∃ q : Bool, (decide (s < 8) || decide (64 < s)) = q := ⟨_, rfl⟩
 have HQ := hid hq
 go_cut [24] from 19 to 25 (fun s24 wx => s24 = .bool q ∧ W0 = wx)
 case first =>
  by_cases h8 : s < 8
  ·have t1 : decide (s < 8) = true := decide_eq_true h8
   have hq2 : q = true := by rw [← HQ.out, t1]; rfl
   subst hq2
   clear hq
   go_wp2_with fail
   go_meet
   exact ⟨rfl, rfl⟩
  ·have t1 : decide (s < 8) = false := decide_eq_false h8
   have hq2 : q = decide (64 < s) := by rw [← HQ.out, t1]; rfl
   subst hq2
   clear hq
   go_wp2_with fail
   go_meet
   exact ⟨rfl, rfl⟩
 case rest =>
 obtain ⟨rfl, rfl⟩ := hcut
 clear hq
 go_upto_if 24 with fail
 go_cut [6] from 24 to 25 (fun s6 wx => s6 = .int .i64 (N : Int) ∧ W0 = wx)
 case first =>
  rcases HWY.out with ⟨t1, ta, tn⟩ | ⟨t1, t2, ta, tn⟩ | ⟨t1, t2, ta, tb, tn⟩
  ·obtain rfl : N = 8 := tn
   obtain rfl : q = true := by rw [← HQ.out, t1]; rfl
   go_wp2_with fail
   go_meet
   exact ⟨rfl, rfl⟩
  ·obtain rfl : N = 8 := tn
   obtain rfl : q = true := by rw [← HQ.out, t1, t2]; rfl
   go_wp2_with fail
   go_meet
   exact ⟨rfl, rfl⟩
  ·obtain rfl : s = (N : Int) := tn.symm
   obtain rfl : q = false := by rw [← HQ.out, t1, t2]; rfl
   go_wp2_with fail
   go_meet
   exact ⟨rfl, rfl⟩
 case rest =>
 obtain ⟨rfl, rfl⟩ := hcut
 subst hW0
 clear HWY
 go_upto_region 5 with (go_at_call 9; refine (new_yes _ _ (by omega) (by omega)).mono ?_; rintro e w1 ⟨d, sl, rfl, D, hb1⟩; have HD := hid D; have HB1 := hid hb1; clear D hb1)
 have hb3 := HB1.out.size
 go_upto_region 6 with (go_at_call 13; (refine (rnew_yes N _ hs8 (by omega)).mono ?_; rintro e w2 ⟨r, vf, rfl, RF, hb2⟩; have HRF := hid RF; have HB2 := hid hb2; clear hb2 RF))
 have hmk : ∀ W : World, (Instr.makeSlice 22 (.int .i64 0) (.int .i64 ((n : Int) + 2))).run Tryz.prog W = .ok (.slice (some ⟨W.heap.size, 0, none⟩) 0 (n + 2)) (W.alloc (.cells (madeCells #[.int .u32 0] (n + 2)) 23)) := fun W => mk_room (n + 2) (by omega) W
 have HW2 := hid (HB0.out.trans ((HB1.out.trans (HB2.out.mono HB1.out.size)).mono HB0.out.size))
 have KE := (K0.out.step HB1.out).step HB2.out
 have ke0 := KE.cell 0
 have ke1 := KE.cell 1
 simp only [rstart, lD, lE, lF] at ke0 ke1
 have hn2 : IntKind.i64.wrap ((n : Int) + 2) = (n : Int) + 2 := IntWalk.i64_in _ (by omega)
 have hlt2 : w.heap.size < w2.heap.size := by have := HB2.out.size; simp only [World.size_alloc] at hb3; omega
 have HS2 := hid (show ∀ W : World, Below w2.heap.size w2 W → 0 < n → ∃ b off, A = some ⟨b, off, none⟩ ∧ ∀ i, i < n → W.cell? ⟨b, off + i, none⟩ = some (.int .u32 (f i)) from fun W hW hn0 => by
  obtain ⟨b, off, hA, hlt, hc⟩ := HR.out hn0
  exact ⟨b, off, hA, fun i hi => ((HW2.out.trans (hW.mono HW2.out.size)).cell (p := ⟨b, off + i, none⟩) hlt).trans (hc i hi)⟩)
 have HT2 := hid (show ∀ W : World, W.heap[w2.heap.size]? = some (.cells (madeCells #[.int .u32 0] (n + 2)) 23 (0, 0)) → ∀ j, j < n → (W.cell? ⟨w2.heap.size, j, none⟩).isSome = true ∧ W.frozen? ⟨w2.heap.size, j, none⟩ = false from fun W hW j hj => by
  have hO : OwnI .u32 W w2.heap.size (n + 2) 23 (fun _ => 0) := ⟨_, hW, size_madeCells _ _, fun i hi => made_u32 (n + 2) i hi⟩
  exact ⟨by rw [hO.cell (by omega)]; rfl, hO.frozen j⟩)
 go_cut [11] from 35 to 43 (fun s11 wx => s11 = .slice (some ⟨w2.heap.size, 0, none⟩) n (n + 2) ∧ Hid (Below w2.heap.size w2 wx) ∧ Hid (OwnI .u32 wx w2.heap.size (n + 2) 23 (fun i => if i < n then f i else 0)))
 case first =>
  go_region_law ((refine step_fill (by rfl) _ _ (by rfl) _ n c A f (by rfl) (by rfl) (HS2.out _ (by go_grown)) (HT2.out _ (heap_alloc_new _ _)) ?_))
  all_goals
   go_wp2_with fail
   go_meet
   refine ⟨rfl, hid ?_, hid ?_⟩
   ·exact fill_below (by go_grown) (Nat.le_refl _) _
   ·exact own_fill _ _ n f (heap_alloc_new _ _)
 case rest =>
 obtain ⟨rfl, HB3, HO3⟩ := hcut
 have KF := KE.step HB3.out
 have kf0 := KF.cell 0
 have kf1 := KF.cell 1
 simp only [rstart, lD, lE, lF] at kf0 kf1
 have HWC := hid (HW2.out.trans (HB3.out.mono HW2.out.size))
 have hls : (w.alloc (.cells #[.slice A n c, .int .u32 ent, .int .i64 s] 25)).heap.size = w.heap.size + 1 := by simp
 have HDC := hid ((HD.out.below HB2.out).below HB3.out)
 have hdl := HD.out.dlt
 have hsl := HD.out.slt
 have hb2s := HB2.out.size
 have hb3s := HB3.out.size
 have HNW := hid (mNew_yes (some ⟨w2.heap.size, 0, none⟩) n (n + 2) ent wc h0 HG.out f HF.out (RdI.congr (HO3.out.rd (n := n) (Nat.le_add_right n 2)) fun i hi => if_pos hi) HDC.out (by omega))
 clear HS2 HT2 hmk hn2 ke0 ke1 K0 KE HDC HD
 go_upto_region 8 with (go_at_call 10; refine HNW.out.mono ?_; rintro e w4 ⟨m, v, rfl, M, hb4, -, -, -, hm1, hm2⟩; have HM := hid M; have HB4 := hid hb4; have HM2 := hid hm2; clear M hb4 hm2)
 clear HNW
 have KG := KF.step HB4.out
 have kg0 := KG.cell 0
 have kg1 := KG.cell 1
 simp only [rstart, lD, lE, lF] at kg0 kg1
 have HW4 := hid (HWC.out.trans (HB4.out.mono HWC.out.size))
 have HRF4 := hid ((HRF.out.below HB3.out).below HB4.out)
 have HNR := hid (rmNew_full A n c ent w4 h0 HG.out f HF.out (RdI.keep HR.out HW4.out) ⟨hs8, by omega⟩ HRF4.out)
 clear KF kf0 kf1
 go_upto_region 9 with (go_at_call 14; refine HNR.out.mono ?_; rintro e w5 ⟨x, u, rfl, RM, hb5, hru⟩; have HRM := hid RM; have HRU := hid hru; have HB5 := hid hb5; clear hb5 RM hru)
 clear HNR KG kg0 kg1
 have hgb : w2.heap.size ∉ brow v := fun hg => by
  rcases HM2.out _ hg with h | h
  ·simp only [drow, List.mem_cons, Option.mem_toList, Value.ownBlock] at h
   rcases h with h | h | h
   ·omega
   ·omega
   ·cases h
  ·have := HO3.out.lt; omega
 have hrl := rrow_lt' HRF.out
 have hb4s := HB4.out.size
 have hvm := HM.out.mlt
 have hvl := fun k hk => (HM.out.bus.lt k hk).2
 have hgu : w2.heap.size ∉ x :: rbrow u := fun hg => by
  rcases HRU.out _ hg with h | h
  ·have := (hrl _ h).2; omega
  ·have := HO3.out.lt; omega
 have hgb' : w2.heap.size ∉ m :: brow v := fun hg => by
  rcases List.mem_cons.1 hg with h | h
  ·have := HO3.out.lt; omega
  ·exact hgb h
 have HL := hid (show LentB w w5 (w.heap.size + 1) m v w1.heap.size x u ⟨wordsM f n, [], [], 0, 0, 0, 0, N, fun _ => nought, []⟩ ⟨mcpu0 ent, -1, false, 0⟩ ⟨mcpu0 ent, -1, 0⟩ w2.heap.size n from
  ⟨⟨by rw [← hls]; exact HM.out.step HB5.out, HRM.out, HW4.out.trans (HB5.out.mono HW4.out.size), by omega, by omega, fun k hk hn => by
   have h1 : w2.heap.size ≤ k ∧ k < w4.heap.size ∨ k < w1.heap.size := by
    rcases List.mem_cons.1 hk with rfl | hk
    ·exact .inl ⟨by omega, hvm⟩
    ·have h9 := hvl k hk
     rcases HM2.out _ hk with h | h
     ·simp only [drow, List.mem_cons, Option.mem_toList, Value.ownBlock] at h
      rcases h with h | h | h
      ·exact .inr (by omega)
      ·exact .inr (by omega)
      ·cases h
     ·exact .inl ⟨by omega, h9⟩
   rcases HRU.out _ hn with h | h
   ·have := hrl _ h; omega
   ·omega⟩, by
   obtain ⟨Z, h1, h2⟩ := ((HO3.out.below HB4.out HO3.out.lt).below HB5.out (Nat.lt_of_lt_of_le HO3.out.lt HB4.out.size))
   exact ⟨Z, h1, by omega⟩, hgb', hgu, HW2.out.size⟩)
 clear hrl hb4s hvm hvl hgu hgb' HRM HRU HRF HRF4
 clear HB5 HM HM2 HB4 HW4 HWC HO3 HB3 HB2 HB1 hdl hsl hb2s hb3s hm1 hb3 hls HB0 HR HF HG HQ
 clear hgb
 generalize w2.heap.size = g at HL ⊢
 generalize w1.heap.size = b2 at HL
 go_wp2_with fail
 go_loopw [16] (fun i wr => ∃ k : Nat, k ≤ n ∧ i = .int .i64 k ∧ Hid (LentB w wr (w.heap.size + 1) m v b2 x u ⟨wordsM f n, [], [], 0, 0, 0, 0, N, fun _ => nought, []⟩ ⟨mcpu0 ent, -1, false, 0⟩ ⟨mcpu0 ent, -1, 0⟩ g n)) (fun i _ => n - (intOf i).toNat)
 case atStart => exact ⟨0, Nat.zero_le _, rfl, HL⟩
 case round =>
  obtain ⟨k, hk, rfl, HX⟩ := hrel
  by_cases hlt : k < n
  ·have hlt' : (k : Int) < (n : Int) := by omega
   obtain ⟨⟨u, hu⟩, hfz⟩ := HX.out.cell k hlt
   have HY := hid (HX.out.set k (.int .u32 2004318071))
   clear HX HL
   go_wp2_with fail
   go_roundw
   case rel => exact ⟨k + 1, by omega, by go_num, HY⟩
   case measure => simp [intOf]; omega
  ·obtain rfl : k = n := by omega
   go_wp2_with fail
   refine bodyPost_ret (v := .tuple #[.pointer (some ⟨m, 0, none⟩), .int .i64 0, .pointer (some ⟨x, 0, none⟩), .int .i64 0]) (by simp [results, Tryz.results5, go_sem]) rfl ⟨w.heap.size + 1, m, v, b2, x, u, rfl, HX.out.a⟩
attribute [local go_sem ↓] exec_load_end exec_store_end
theorem endEq (k t a d : Int) (w : World) : (Op.equalIn 10000 46 (.agg (endA k t a d)) (.agg (endA k t a d))).run Tryz.prog w = .ok true w := by
 unfold endA
 simp [go_sem, Tryz.underlying46]
theorem run_eql_end (k t a d : Int) (w : World) : (binOp .eql 46 (.agg (endA k t a d)) (.agg (endA k t a d))).run Tryz.prog w = .ok (.bool true) w := by
 rw [run_eql_struct, endEq]
 rfl
attribute [local go_sem ↓] run_eql_end
def fdS (x : BS) (s : ByteArray) : BS := if x.q.length + s.size ≤ 65536 then { x with q := x.q ++ s.data.toList } else x
def fdE (x : BS) (s : ByteArray) : Int := if x.q.length + s.size ≤ 65536 then 0 else 40
def wrdOk (a : Int) : Bool := decide (a < 1048576 ∧ a % 4 = 0)
def wrdV (x : BS) (a : Int) : Int := if wrdOk a then getV x.M a.toNat else 0
def cutV (a : Int) : Int := if a < -1 then -1 else a
def sameCut (c d : Int) : Prop := c = d ∨ (c < 0 ∧ d < 0)
theorem same_look {c d : Int} (h : sameCut c d) (n : Nat) : lookV c n = lookV d n := by
 rcases h with rfl | ⟨h1, h2⟩
 ·rfl
 ·unfold lookV; rw [show decide (0 ≤ c) = false from decide_eq_false (by omega), show decide (0 ≤ d) = false from decide_eq_false (by omega)]; rfl
theorem same_run {c d : Int} (h : sameCut c d) : ∀ (n : Nat) (cs : Array Value) (x : BS) (g : Bool) (k : Nat), runM c n cs x g k = runM d n cs x g k
 | n, cs, x, true, k => by rw [runM_gone, runM_gone]
 | 0, cs, x, false, k => rfl
 | n + 1, cs, x, false, k => by
  cases hs : stepM cs x with
  | stop k t a s x' => rw [runM_stop hs, runM_stop hs]
  | go cs' x' lk => rw [runM_go hs, runM_go hs, same_look h, same_run h n]
theorem same_cutV (a : Int) : sameCut (cutV a) a := by unfold cutV sameCut; split <;> omega
section
variable {w0 w w' : World} {b1 m : Nat} {v v' : BV} {b2 g : Nat} {u u' : RV} {x x' z z' : BS} {y y' : MC} {yr yr' : RMC} {hist hist' : List (Nat × ByteArray)}
set_option maxRecDepth 100000 in
theorem mCutAt_neg (M : MachAt w b1 m v x y) (a : Int) (h0 : a < -1) : Calls Tryz.prog 21 #[.pointer (some ⟨m, 0, none⟩), .int .i64 a] w fun e w' => e = .returned (.tuple #[]) ∧ MachAt w' b1 m v x { y with cut := -1 } ∧ MMoves w w' m v v := by
 have HM := hid M
 obtain ⟨c0, c23, c24, c25⟩ := M.cells
 have f23 := M.frozen 23
 have hlt : decide (a < -1) = true := decide_eq_true (by omega)
 clear M
 go_enter Tryz.func21, Tryz.ntmps21
 go_wp2_with (fail)
 go_end0
 exact ⟨rfl, HM.out.setCut (-1), MMoves.set _ _ _ _ _⟩
set_option maxRecDepth 100000 in
theorem mCutAt_1 (M : MachAt w b1 m v x y) : Calls Tryz.prog 21 #[.pointer (some ⟨m, 0, none⟩), .int .i64 (-1)] w fun e w' => e = .returned (.tuple #[]) ∧ MachAt w' b1 m v x { y with cut := -1 } ∧ MMoves w w' m v v := by
 have HM := hid M
 obtain ⟨c0, c23, c24, c25⟩ := M.cells
 have f23 := M.frozen 23
 clear M
 go_enter Tryz.func21, Tryz.ntmps21
 go_wp2_with (fail)
 go_end0
 exact ⟨rfl, HM.out.setCut (-1), MMoves.set _ _ _ _ _⟩
theorem mWord_no (M : MachAt w b1 m v x y) (a : Int) (h0 : 0 ≤ a) (h1 : a < 4294967296) (h4 : ¬ (a < 1048576 ∧ a % 4 = 0)) : Calls Tryz.prog 22 #[.pointer (some ⟨m, 0, none⟩), .int .u32 a] w fun e w' => e = .returned (.tuple #[.int .u32 0, .bool false]) ∧ w = w' := by
 have HM := hid M
 have H4 := hid h4
 obtain ⟨c0, c23, c24, c25⟩ := M.cells
 clear M h4
 go_enter Tryz.func22, Tryz.ntmps22
 go_wp2_with (go_at_call 34; refine (bword_no HM.out.bus a h0 h1 H4.out).mono ?_; rintro e w1 ⟨rfl, rfl⟩)
 go_ret2
 exact ⟨rfl, rfl⟩
theorem bud_lo (n : Int) (h : n ≤ 3000) (w : World) : Calls Tryz.prog 15 #[.int .i64 n] w fun e w' => e = .returned (.int .i64 n) ∧ w = w' := by
 have t : decide (3000 < n) = false := decide_eq_false (by omega)
 go_enter Tryz.func15, Tryz.ntmps15
 go_wp2_with fail
 go_ret
 exact ⟨rfl, rfl⟩
theorem bud_hi (n : Int) (h : 3000 < n) (w : World) : Calls Tryz.prog 15 #[.int .i64 n] w fun e w' => e = .returned (.int .i64 3000) ∧ w = w' := by
 have t : decide (3000 < n) = true := decide_eq_true h
 go_enter Tryz.func15, Tryz.ntmps15
 go_wp2_with fail
 go_ret
 exact ⟨rfl, rfl⟩
theorem bud_any (n : Int) : ∃ k : Int, k ≤ 3000 ∧ ∀ w : World, Calls Tryz.prog 15 #[.int .i64 n] w fun e w' => e = .returned (.int .i64 k) ∧ w = w' := by
 by_cases h : n ≤ 3000
 ·exact ⟨n, h, bud_lo n h⟩
 ·exact ⟨3000, Int.le_refl _, bud_hi n (by omega)⟩
theorem MB.pos1 (T : MB w0 w b1 m v b2 g u x z y yr hist) (hT : Tab w0) : 0 < b1 ∧ 0 < b2 ∧ Tab w := ⟨Nat.lt_of_lt_of_le hT.lt T.l1, Nat.lt_of_lt_of_le hT.lt T.l2, hT.below T.below hT.lt⟩
theorem MB.runP (T : MB w0 w b1 m v b2 g u x z y yr hist) (hT : Tab w0) (most : Int) (n : Nat) (hn : min (max most 0) 10000000 = (n : Int)) (s0 : 0 ≤ y.st) (s1 : y.st ≤ 8000000000000000000) {k t a dI : Int} {d : Nat} {cs : Array Value} {x' : BS} {gg : Bool} (hZ : runM y.cut n y.cs x (lookV y.cut x.ws.length) 0 = ⟨k, t, a, d, cs, x', gg⟩) (hd : (d : Int) = dI) :
 Calls Tryz.prog 11 #[.pointer (some ⟨m, 0, none⟩), .int .i64 most] w fun e w' => e = .returned (.agg (endA k t a dI)) ∧ ∃ v', MB w0 w' b1 m v' b2 g u x' z { y with cs := cs, gone := gg, st := y.st + dI } yr hist ∧ MMoves w w' m v v' :=
 (mrun_as T.p (T.pos1 hT).2.2 (T.pos1 hT).1 most n hn s0 (by omega) hZ hd).mono fun e w' ⟨h1, v', h2, h3⟩ => ⟨h1, v', T.opP h2 h3, h3⟩
theorem MB.runR (T : MB w0 w b1 m v b2 g u x z y yr hist) (hT : Tab w0) (most : Int) (n : Nat) (hn : min (max most 0) 10000000 = (n : Int)) (s0 : 0 ≤ yr.st) (s1 : yr.st ≤ 8000000000000000000) {k t a dI : Int} {d : Nat} {cs : Array Value} {x' : BS} {gg : Bool} (hZ : runM yr.cut n yr.cs z (lookV yr.cut z.ws.length) 0 = ⟨k, t, a, d, cs, x', gg⟩) (hd : (d : Int) = dI) :
 Calls Tryz.prog 16 #[.pointer (some ⟨g, 0, none⟩), .int .i64 most] w fun e w' => e = .returned (.agg (endA k t a dI)) ∧ ∃ u' hist', MB w0 w' b1 m v b2 g u' x x' y { yr with cs := cs, st := yr.st + dI } hist' ∧ RMMoves w w' g u u' := by
 subst hd
 refine (rrun_any T.r (T.pos1 hT).2.2 (T.pos1 hT).2.1 most n hn s0 s1).mono ?_
 rintro e w' ⟨k2, t2, a2, x2, cs2, g2, d2, hz, h1, u', hist', h2, h3⟩
 rw [hZ] at hz
 injection hz with e1 e2 e3 e4 e5 e6 e7
 subst e1 e2 e3 e4 e5 e6
 exact ⟨h1, u', hist', T.opR h2 h3, h3⟩
theorem MB.feedP (T : MB w0 w b1 m v b2 g u x z y yr hist) (s : ByteArray) (hs : s.size ≤ 140737488351232) :
 Calls Tryz.prog 17 #[.pointer (some ⟨m, 0, none⟩), .string s] w fun e w' => e = .returned (.int .i64 (fdE x s)) ∧ ∃ v', MB w0 w' b1 m v' b2 g u (fdS x s) z y yr hist ∧ MMoves w w' m v v' := by
 unfold fdS fdE
 by_cases h : x.q.length + s.size ≤ 65536
 ·rw [if_pos h, if_pos h]
  exact (mFeed_any T.p s h).mono fun e w' ⟨h1, v', h2, h3⟩ => ⟨h1, v', T.opP h2 h3, h3⟩
 ·rw [if_neg h, if_neg h]
  exact (mFeed_no T.p s (by omega) hs).mono fun e w' ⟨h1, h2⟩ => ⟨h1, v, by subst h2; exact T, by subst h2; exact MMoves.refl _ _ _⟩
theorem MB.feedR (T : MB w0 w b1 m v b2 g u x z y yr hist) (s : ByteArray) (hs : s.size ≤ 140737488351232) :
 Calls Tryz.prog 18 #[.pointer (some ⟨u.b, 0, none⟩), .string s] w fun e w' => e = .returned (.int .i64 (fdE z s)) ∧ ∃ hist', MB w0 w' b1 m v b2 g u x (fdS z s) y yr hist' ∧ RMMoves w w' g u u := by
 unfold fdS fdE
 by_cases h : z.q.length + s.size ≤ 65536
 ·rw [if_pos h, if_pos h]
  exact (rfeed_yes T.r.bus s h).mono fun e w' ⟨h1, h2, h3⟩ => ⟨h1, hist, T.opR (T.r.moved h2 h3) (.of h3), .of h3⟩
 ·rw [if_neg h, if_neg h]
  exact (rfeed_no T.r.bus s (by omega) hs).mono fun e w' ⟨h1, h2⟩ => ⟨h1, hist, by subst h2; exact T, by subst h2; exact RMMoves.refl _ _ _⟩
theorem MB.tickP (T : MB w0 w b1 m v b2 g u x z y yr hist) (a : Int) (h0 : 0 ≤ a) (h1 : a < 4294967296) :
 Calls Tryz.prog 19 #[.pointer (some ⟨m, 0, none⟩), .int .u32 a] w fun e w' => e = .returned (.tuple #[]) ∧ MB w0 w' b1 m v b2 g u { x with tk := (x.tk + a) % 4294967296 } z y yr hist ∧ MMoves w w' m v v :=
 (mTick_any T.p a h0 h1).mono fun e w' ⟨h1, h2, h3⟩ => ⟨h1, T.opP h2 h3, h3⟩
theorem MB.tickR (T : MB w0 w b1 m v b2 g u x z y yr hist) (a : Int) (h0 : 0 ≤ a) (h1 : a < 4294967296) :
 Calls Tryz.prog 20 #[.pointer (some ⟨u.b, 0, none⟩), .int .u32 a] w fun e w' => e = .returned (.tuple #[]) ∧ MB w0 w' b1 m v b2 g u x { z with tk := (z.tk + a) % 4294967296 } y yr hist ∧ RMMoves w w' g u u :=
 (rtick_any T.r.bus a h0 h1).mono fun e w' ⟨h1, h2, h3⟩ => ⟨h1, T.opR (T.r.moved h2 h3) (.of h3), .of h3⟩
theorem MB.cutP (T : MB w0 w b1 m v b2 g u x z y yr hist) (a : Int) :
 Calls Tryz.prog 21 #[.pointer (some ⟨m, 0, none⟩), .int .i64 a] w fun e w' => e = .returned (.tuple #[]) ∧ MB w0 w' b1 m v b2 g u x z { y with cut := cutV a } yr hist ∧ MMoves w w' m v v := by
 unfold cutV
 by_cases h : a < -1
 ·rw [if_pos h]
  exact (mCutAt_neg T.p a h).mono fun e w' ⟨h1, h2, h3⟩ => ⟨h1, T.opP h2 h3, h3⟩
 ·rw [if_neg h]
  by_cases h1 : a = -1
  ·subst h1
   exact (mCutAt_1 T.p).mono fun e w' ⟨h1, h2, h3⟩ => ⟨h1, T.opP h2 h3, h3⟩
  ·exact (mCutAt_any T.p a (by omega)).mono fun e w' ⟨h1, h2, h3⟩ => ⟨h1, T.opP h2 h3, h3⟩
theorem MB.wordP (T : MB w0 w b1 m v b2 g u x z y yr hist) (a : Int) (h0 : 0 ≤ a) (h1 : a < 4294967296) :
 Calls Tryz.prog 22 #[.pointer (some ⟨m, 0, none⟩), .int .u32 a] w fun e w' => e = .returned (.tuple #[.int .u32 (wrdV x a), .bool (wrdOk a)]) ∧ w = w' := by
 unfold wrdV wrdOk
 by_cases h : a < 1048576 ∧ a % 4 = 0
 ·rw [decide_eq_true h, if_pos rfl]
  exact mWord_any T.p a h0 h.1 h.2
 ·rw [decide_eq_false h]
  exact mWord_no T.p a h0 h1 h
theorem MB.wordR (T : MB w0 w b1 m v b2 g u x z y yr hist) (a : Int) (h0 : 0 ≤ a) (h1 : a < 4294967296) :
 Calls Tryz.prog 23 #[.pointer (some ⟨u.b, 0, none⟩), .int .u32 a] w fun e w' => e = .returned (.tuple #[.int .u32 (wrdV z a), .bool (wrdOk a)]) ∧ w = w' := by
 unfold wrdV wrdOk
 by_cases h : a < 1048576 ∧ a % 4 = 0
 ·rw [decide_eq_true h, if_pos rfl]
  exact rword_yes T.r.bus a h0 h.1 h.2
 ·rw [decide_eq_false h]
  exact rword_no T.r.bus a h0 h1 h
/-- A block beside both. -/
structure MBox (w : World) (m : Nat) (v : BV) (g : Nat) (u : RV) (k : Nat) (X : Array Value) (t : TypeId) : Prop where
 blk : Blk w k X t
 fa : k ∉ m :: brow v
 fb : k ∉ g :: rbrow u
theorem mm_free (h : MMoves w w' m v v') {k : Nat} (hk : k < w.heap.size) (hn : k ∉ m :: brow v) : k ∉ m :: brow v' := fun hm => by
 rcases List.mem_cons.1 hm with rfl | hm
 ·exact hn List.mem_cons_self
 ·rcases h.n k hm with h1 | h1
  ·exact hn (List.mem_cons_of_mem _ h1)
  ·omega
theorem MBox.opP {k : Nat} {X : Array Value} {t : TypeId} (B : MBox w m v g u k X t) (h : MMoves w w' m v v') : MBox w' m v' g u k X t := ⟨(h.t.block k B.blk.lt B.fa).trans B.blk, mm_free h B.blk.lt B.fa, B.fb⟩
theorem MBox.opR {k : Nat} {X : Array Value} {t : TypeId} (B : MBox w m v g u k X t) (h : RMMoves w w' g u u') : MBox w' m v g u' k X t := ⟨(h.t.block k B.blk.lt B.fb).trans B.blk, B.fa, h.free B.blk.lt B.fb⟩
theorem MBox.step {k : Nat} {X : Array Value} {t : TypeId} (B : MBox w m v g u k X t) (h : Below w.heap.size w w') : MBox w' m v g u k X t := B.opP (MMoves.below h)
theorem MBox.new (T : MB w0 w b1 m v b2 g u x z y yr hist) (X : Array Value) (t : TypeId) : MBox (w.alloc (.cells X t)) m v g u w.heap.size X t :=
 ⟨Blk.new w X t, fun h => absurd (T.p.lts _ h).2 (Nat.lt_irrefl _), fun h => absurd (T.r.lts _ h).2 (Nat.lt_irrefl _)⟩
end
def stepA (kind N : Int) (s : ByteArray) : Array Value := #[.int .i64 kind, .int .i64 N, .string s]
/-- Both machines alike. -/
structure MS (w0 w : World) (b1 m b2 g : Nat) (x : BS) (cs : Array Value) (st : Int) : Prop where
 it : ∃ v u hist cp cr gone, sameCut cp cr ∧ MB w0 w b1 m v b2 g u x x ⟨cs, cp, gone, st⟩ ⟨cs, cr, st⟩ hist
def DidS (w0 w' : World) (b1 m b2 g : Nat) (st : Int) (e : Ending) : Prop := e = .returned (.bool true) ∧ ∃ x' cs' st', MS w0 w' b1 m b2 g x' cs' st' ∧ st ≤ st' ∧ st' ≤ st + 3000
section
variable {w0 w w' : World} {b1 m : Nat} {v v' : BV} {b2 g : Nat} {u u' : RV} {x x' z z' : BS} {cs : Array Value} {cp cr st : Int} {gone : Bool} {hist hist' : List (Nat × ByteArray)}
set_option maxRecDepth 100000 in
theorem does_1 (T : MB w0 w b1 m v b2 g u x x ⟨cs, cp, gone, st⟩ ⟨cs, cr, st⟩ hist) (hc : sameCut cp cr) (hT : Tab w0) (s0 : 0 ≤ st) (s1 : st ≤ 4000000000000000000) (kind N : Int) (s : ByteArray) (hk : kind = 1) (hs : s.size ≤ 140737488351232) :
 Calls Tryz.prog 6 #[.pointer (some ⟨m, 0, none⟩), .pointer (some ⟨g, 0, none⟩), .agg (stepA kind N s)] w fun e w' => DidS w0 w' b1 m b2 g st e := by
 subst hk
 obtain ⟨bI, hb3, hbud⟩ := bud_any N
 obtain ⟨n, hn⟩ : ∃ n : Nat, min (max bI 0) 10000000 = (n : Int) := ⟨(min (max bI 0) 10000000).toNat, by omega⟩
 have hn3 : n ≤ 3000 := by omega
 have hsay := run_says cp n cs x (lookV cp x.ws.length) 0
 simp only at hsay
 have hsr := same_run hc n cs x (lookV cp x.ws.length) 0
 have hsl := same_look hc x.ws.length
 obtain ⟨Z, hZ⟩ : ∃ Z, runM cp n cs x (lookV cp x.ws.length) 0 = Z := ⟨_, rfl⟩
 rw [hZ] at hsay hsr
 obtain ⟨-, -, -, hdid, -⟩ := hsay
 obtain ⟨k, t, a, d, cs2, x2, gg⟩ := Z
 simp only at hdid
 obtain ⟨dI, hdI⟩ : ∃ dI : Int, (d : Int) = dI := ⟨_, rfl⟩
 have hd0 : 0 ≤ dI := by omega
 have hd1 : dI ≤ 3000 := by omega
 rw [hsl] at hsr
 have HZ := hid hZ
 have HZR := hid hsr.symm
 have HN := hid hn
 have HD := hid hdI
 have HBU := hid hbud
 clear hZ hsr hsl hn hdI hbud hdid
 have T0 := hid (T.step ((Below.refl _ _).alloc (Nat.le_refl _) (.cells (stepA 1 N s) 35)))
 have B0 := hid (MBox.new T (stepA 1 N s) 35)
 have HC := hid hc
 have HT := hid hT
 clear T hc hT
 simp only [stepA]
 go_enter Tryz.func6, Tryz.ntmps6
 go_upto_region 3 with fail
 generalize hg : w.heap.size = kb at B0 ⊢
 generalize hW : w.alloc (.cells (stepA 1 N s) 35) = W at T0 B0
 simp only [stepA] at hW
 rw [hW]
 clear hW hg
 have c1 : W.cell? ⟨kb, 1, none⟩ = some (.int .i64 N) := B0.out.blk.cell 1
 go_upto_region 4 with (first | (go_at_call 15; refine (HBU.out _).mono ?_; rintro e w9 ⟨rfl, rfl⟩) | (go_at_call 11; refine (T0.out.runP HT.out bI n HN.out s0 (show st ≤ 8000000000000000000 by omega) HZ.out HD.out).mono ?_; rintro e w1 ⟨rfl, v1, t1, m1⟩; have hnw := new_end w1 k t a dI #[.int .i64 0, .int .i64 0, .int .u32 0, .int .i64 0] rfl; have T1 := hid (t1.step ((Below.refl _ _).alloc (Nat.le_refl _) (.cells (endA k t a dI) 46))); have B1 := hid ((B0.out.opP m1).step ((Below.refl _ _).alloc (Nat.le_refl _) (.cells (endA k t a dI) 46))); have E1 := hid (MBox.new t1 (endA k t a dI) 46); clear t1 m1))
 clear hnw c1 T0 B0
 generalize w1.alloc (.cells (endA k t a dI) 46) = wa at T1 B1 E1 ⊢
 generalize w1.heap.size = ga at E1 ⊢
 have c1 : wa.cell? ⟨kb, 1, none⟩ = some (.int .i64 N) := B1.out.blk.cell 1
 go_upto_region 5 with (first | (go_at_call 15; refine (HBU.out _).mono ?_; rintro e w9 ⟨rfl, rfl⟩) | (go_at_call 16; refine (T1.out.runR HT.out bI n HN.out s0 (show st ≤ 8000000000000000000 by omega) HZR.out HD.out).mono ?_; rintro e w2 ⟨rfl, u2, hist2, t2, m2⟩; have hnw := new_end w2 k t a dI #[.int .i64 0, .int .i64 0, .int .u32 0, .int .i64 0] rfl; have T2 := hid (t2.step ((Below.refl _ _).alloc (Nat.le_refl _) (.cells (endA k t a dI) 46))); have E2 := hid ((E1.out.opR m2).step ((Below.refl _ _).alloc (Nat.le_refl _) (.cells (endA k t a dI) 46))); have G2 := hid (MBox.new t2 (endA k t a dI) 46); clear t2 m2))
 clear hnw c1 T1 B1 E1
 generalize w2.alloc (.cells (endA k t a dI) 46) = wb at T2 E2 G2 ⊢
 generalize w2.heap.size = gb at G2 ⊢
 have l1 := load_end E2.out.blk
 have l2 := load_end G2.out.blk
 go_wp2_with fail
 go_ret
 exact ⟨rfl, x2, cs2, st + dI, ⟨v1, u2, hist2, cp, cr, gg, HC.out, T2.out⟩, by omega, by omega⟩
set_option maxRecDepth 100000 in
theorem does_2 (T : MB w0 w b1 m v b2 g u x x ⟨cs, cp, gone, st⟩ ⟨cs, cr, st⟩ hist) (hc : sameCut cp cr) (hT : Tab w0) (s0 : 0 ≤ st) (s1 : st ≤ 4000000000000000000) (kind N : Int) (s : ByteArray) (hk : kind = 2) (hs : s.size ≤ 140737488351232) :
 Calls Tryz.prog 6 #[.pointer (some ⟨m, 0, none⟩), .pointer (some ⟨g, 0, none⟩), .agg (stepA kind N s)] w fun e w' => DidS w0 w' b1 m b2 g st e := by
 subst hk
 have T0 := hid (T.step ((Below.refl _ _).alloc (Nat.le_refl _) (.cells (stepA 2 N s) 35)))
 have B0 := hid (MBox.new T (stepA 2 N s) 35)
 have HC := hid hc
 have HT := hid hT
 clear T hc hT
 simp only [stepA]
 go_enter Tryz.func6, Tryz.ntmps6
 go_upto_region 7 with fail
 generalize hg : w.heap.size = kb at B0 ⊢
 generalize hW : w.alloc (.cells (stepA 2 N s) 35) = W at T0 B0
 simp only [stepA] at hW
 rw [hW]
 clear hW hg
 have c2 : W.cell? ⟨kb, 2, none⟩ = some (.string s) := B0.out.blk.cell 2
 go_upto_region 8 with (go_at_call 17; refine (T0.out.feedP s hs).mono ?_; rintro e w1 ⟨rfl, v1, t1, m1⟩; have T1 := hid t1; have B1 := hid (B0.out.opP m1); clear t1 m1)
 clear c2 T0 B0
 have JR : Hid (∃ u9 z9 yr9 h9, RMachAt w1.drew b2 g u9 z9 yr9 h9 ∧ u9.b = u.b) := hid (⟨_, _, _, _, (T1.out.step (show Below w1.heap.size w1 w1.drew from (Below.refl _ _).drew)).r, rfl⟩)
 have JB : Hid (Blk w1.drew kb #[.int .i64 2, .int .i64 N, .string s] 35) := hid (B1.out.blk.step ((Below.refl _ _).drew))
 have LT := hid (T1.out.step (show Below w1.heap.size w1 w1.drew from (Below.refl _ _).drew))
 have LB := hid (B1.out.step (show Below w1.heap.size w1 w1.drew from (Below.refl _ _).drew))
 refine wp_region_held_drew (S := (fun w' => Hid (∃ u9 z9 yr9 h9, RMachAt w' b2 g u9 z9 yr9 h9 ∧ u9.b = u.b) ∧ Hid (Blk w' kb #[.int .i64 2, .int .i64 N, .string s] 35))) (by kernel_rfl) ⟨JR, JB⟩ (fun hHeld => ?_)
 clear hHeld
 generalize w1.drew = we at JR JB LT LB ⊢
 have hHeld : ((fun w' => Hid (∃ u9 z9 yr9 h9, RMachAt w' b2 g u9 z9 yr9 h9 ∧ u9.b = u.b) ∧ Hid (Blk w' kb #[.int .i64 2, .int .i64 N, .string s] 35)) we) := ⟨JR, JB⟩
 refine tke 0 (v := ?v0_1) ?hy0_1 (by assumption) ?rest0_1
 case hy0_1 => rintro wq ⟨qR, qB⟩; obtain ⟨u9, z9, yr9, h9, bx, hu9⟩ := qR.out; have z22 := bx.cells.1; rw [hu9] at z22; have zb1 := qB.out.cell 1; have zb2 := qB.out.cell 2; simp only [lD, lE, lF] at zb1 zb2; clear bx hu9; clear qR qB; go_simp; try with_reducible rfl
 refine tke 1 (v := ?v1_2) ?hy1_2 (by assumption) ?rest1_2
 case hy1_2 => rintro wq ⟨qR, qB⟩; obtain ⟨u9, z9, yr9, h9, bx, hu9⟩ := qR.out; have z22 := bx.cells.1; rw [hu9] at z22; have zb1 := qB.out.cell 1; have zb2 := qB.out.cell 2; simp only [lD, lE, lF] at zb1 zb2; clear bx hu9; clear qR qB; go_simp; try with_reducible rfl
 refine tke 2 (v := ?v2_3) ?hy2_3 (by assumption) ?rest2_3
 case hy2_3 => rintro wq ⟨qR, qB⟩; obtain ⟨u9, z9, yr9, h9, bx, hu9⟩ := qR.out; have z22 := bx.cells.1; rw [hu9] at z22; have zb1 := qB.out.cell 1; have zb2 := qB.out.cell 2; simp only [lD, lE, lF] at zb1 zb2; clear bx hu9; clear qR qB; go_simp; try with_reducible rfl
 refine tke 3 (v := ?v3_4) ?hy3_4 (by assumption) ?rest3_4
 case hy3_4 => rintro wq ⟨qR, qB⟩; obtain ⟨u9, z9, yr9, h9, bx, hu9⟩ := qR.out; have z22 := bx.cells.1; rw [hu9] at z22; have zb1 := qB.out.cell 1; have zb2 := qB.out.cell 2; simp only [lD, lE, lF] at zb1 zb2; clear bx hu9; clear qR qB; go_simp; try with_reducible rfl
 refine tke 4 (v := ?v4_5) ?hy4_5 (by assumption) ?rest4_5
 case hy4_5 => rintro wq ⟨qR, qB⟩; obtain ⟨u9, z9, yr9, h9, bx, hu9⟩ := qR.out; have z22 := bx.cells.1; rw [hu9] at z22; have zb1 := qB.out.cell 1; have zb2 := qB.out.cell 2; simp only [lD, lE, lF] at zb1 zb2; clear bx hu9; clear qR qB; go_simp; try with_reducible rfl
 refine tke 5 (v := ?v5_6) ?hy5_6 (by assumption) ?rest5_6
 case hy5_6 => rintro wq ⟨qR, qB⟩; obtain ⟨u9, z9, yr9, h9, bx, hu9⟩ := qR.out; have z22 := bx.cells.1; rw [hu9] at z22; have zb1 := qB.out.cell 1; have zb2 := qB.out.cell 2; simp only [lD, lE, lF] at zb1 zb2; clear bx hu9; clear qR qB; go_simp; try with_reducible rfl
 clear hHeld
 refine wpAnyH_ready (rs := [6]) (by kernel_rfl) (by simp) ?_
 refine (AllReadyH.cons (o := _) rfl (fun K hK => ?_) AllReadyH.nil)
 try simp only [lA, lB, lC]
 go_simp
 go_at_call 18
 refine (LT.out.feedR s hs).mono ?_
 rintro e w2 ⟨rfl, hist2, t2, m2⟩
 have T2 := hid t2
 have B2 := hid (LB.out.opR m2)
 clear t2 m2
 refine hK.out _ _ ⟨hid ⟨_, _, _, _, T2.out.r, rfl⟩, hid B2.out.blk⟩ (fun _ => ?_)
 try simp only [lA, lB, lC]
 have hHeld2 : ((fun w' => Hid (∃ u9 z9 yr9 h9, RMachAt w' b2 g u9 z9 yr9 h9 ∧ u9.b = u.b) ∧ Hid (Blk w' kb #[.int .i64 2, .int .i64 N, .string s] 35)) w2) := ⟨hid ⟨_, _, _, _, T2.out.r, rfl⟩, hid B2.out.blk⟩
 refine tke 7 (v := ?v7_7) ?hy7_7 (by assumption) ?rest7_7
 case hy7_7 => rintro wq ⟨qR, qB⟩; clear qR qB; go_simp; try with_reducible rfl
 refine wpAnyH_done (by kernel_rfl) ?_ _
 clear hHeld2
 go_wp2_with fail
 go_ret
 exact ⟨rfl, fdS x s, cs, st, ⟨v1, u, hist2, cp, cr, gone, HC.out, T2.out⟩, by omega, by omega⟩
set_option maxRecDepth 100000 in
theorem does_3 (T : MB w0 w b1 m v b2 g u x x ⟨cs, cp, gone, st⟩ ⟨cs, cr, st⟩ hist) (hc : sameCut cp cr) (hT : Tab w0) (s0 : 0 ≤ st) (s1 : st ≤ 4000000000000000000) (kind N : Int) (s : ByteArray) (hk : kind = 3) (hs : s.size ≤ 140737488351232) :
 Calls Tryz.prog 6 #[.pointer (some ⟨m, 0, none⟩), .pointer (some ⟨g, 0, none⟩), .agg (stepA kind N s)] w fun e w' => DidS w0 w' b1 m b2 g st e := by
 subst hk
 have T0 := hid (T.step ((Below.refl _ _).alloc (Nat.le_refl _) (.cells (stepA 3 N s) 35)))
 have B0 := hid (MBox.new T (stepA 3 N s) 35)
 have HC := hid hc
 have HT := hid hT
 clear T hc hT
 simp only [stepA]
 go_enter Tryz.func6, Tryz.ntmps6
 go_upto_region 11 with fail
 generalize hg : w.heap.size = kb at B0 ⊢
 generalize hW : w.alloc (.cells (stepA 3 N s) 35) = W at T0 B0
 simp only [stepA] at hW
 rw [hW]
 clear hW hg
 have c1 : W.cell? ⟨kb, 1, none⟩ = some (.int .i64 N) := B0.out.blk.cell 1
 have n0 : 0 ≤ N % 4294967296 := by omega
 have n1 : N % 4294967296 < 4294967296 := by omega
 go_upto_region 12 with (go_at_call 19; refine (T0.out.tickP (N % 4294967296) n0 n1).mono ?_; rintro e w1 ⟨rfl, t1, m1⟩; have T1 := hid t1; have B1 := hid (B0.out.opP m1); clear t1 m1)
 clear c1 T0 B0
 have JR : Hid (∃ u9 z9 yr9 h9, RMachAt w1.drew b2 g u9 z9 yr9 h9 ∧ u9.b = u.b) := hid (⟨_, _, _, _, (T1.out.step (show Below w1.heap.size w1 w1.drew from (Below.refl _ _).drew)).r, rfl⟩)
 have JB : Hid (Blk w1.drew kb #[.int .i64 3, .int .i64 N, .string s] 35) := hid (B1.out.blk.step ((Below.refl _ _).drew))
 have LT := hid (T1.out.step (show Below w1.heap.size w1 w1.drew from (Below.refl _ _).drew))
 have LB := hid (B1.out.step (show Below w1.heap.size w1 w1.drew from (Below.refl _ _).drew))
 refine wp_region_held_drew (S := (fun w' => Hid (∃ u9 z9 yr9 h9, RMachAt w' b2 g u9 z9 yr9 h9 ∧ u9.b = u.b) ∧ Hid (Blk w' kb #[.int .i64 3, .int .i64 N, .string s] 35))) (by kernel_rfl) ⟨JR, JB⟩ (fun hHeld => ?_)
 clear hHeld
 generalize w1.drew = we at JR JB LT LB ⊢
 have hHeld : ((fun w' => Hid (∃ u9 z9 yr9 h9, RMachAt w' b2 g u9 z9 yr9 h9 ∧ u9.b = u.b) ∧ Hid (Blk w' kb #[.int .i64 3, .int .i64 N, .string s] 35)) we) := ⟨JR, JB⟩
 refine tke 0 (v := ?v0_8) ?hy0_8 (by assumption) ?rest0_8
 case hy0_8 => rintro wq ⟨qR, qB⟩; obtain ⟨u9, z9, yr9, h9, bx, hu9⟩ := qR.out; have z22 := bx.cells.1; rw [hu9] at z22; have zb1 := qB.out.cell 1; have zb2 := qB.out.cell 2; simp only [lD, lE, lF] at zb1 zb2; clear bx hu9; clear qR qB; go_simp; try with_reducible rfl
 refine tke 1 (v := ?v1_9) ?hy1_9 (by assumption) ?rest1_9
 case hy1_9 => rintro wq ⟨qR, qB⟩; obtain ⟨u9, z9, yr9, h9, bx, hu9⟩ := qR.out; have z22 := bx.cells.1; rw [hu9] at z22; have zb1 := qB.out.cell 1; have zb2 := qB.out.cell 2; simp only [lD, lE, lF] at zb1 zb2; clear bx hu9; clear qR qB; go_simp; try with_reducible rfl
 refine tke 2 (v := ?v2_10) ?hy2_10 (by assumption) ?rest2_10
 case hy2_10 => rintro wq ⟨qR, qB⟩; obtain ⟨u9, z9, yr9, h9, bx, hu9⟩ := qR.out; have z22 := bx.cells.1; rw [hu9] at z22; have zb1 := qB.out.cell 1; have zb2 := qB.out.cell 2; simp only [lD, lE, lF] at zb1 zb2; clear bx hu9; clear qR qB; go_simp; try with_reducible rfl
 refine tke 3 (v := ?v3_11) ?hy3_11 (by assumption) ?rest3_11
 case hy3_11 => rintro wq ⟨qR, qB⟩; obtain ⟨u9, z9, yr9, h9, bx, hu9⟩ := qR.out; have z22 := bx.cells.1; rw [hu9] at z22; have zb1 := qB.out.cell 1; have zb2 := qB.out.cell 2; simp only [lD, lE, lF] at zb1 zb2; clear bx hu9; clear qR qB; go_simp; try with_reducible rfl
 refine tke 4 (v := ?v4_12) ?hy4_12 (by assumption) ?rest4_12
 case hy4_12 => rintro wq ⟨qR, qB⟩; obtain ⟨u9, z9, yr9, h9, bx, hu9⟩ := qR.out; have z22 := bx.cells.1; rw [hu9] at z22; have zb1 := qB.out.cell 1; have zb2 := qB.out.cell 2; simp only [lD, lE, lF] at zb1 zb2; clear bx hu9; clear qR qB; go_simp; try with_reducible rfl
 refine tke 5 (v := ?v5_13) ?hy5_13 (by assumption) ?rest5_13
 case hy5_13 => rintro wq ⟨qR, qB⟩; obtain ⟨u9, z9, yr9, h9, bx, hu9⟩ := qR.out; have z22 := bx.cells.1; rw [hu9] at z22; have zb1 := qB.out.cell 1; have zb2 := qB.out.cell 2; simp only [lD, lE, lF] at zb1 zb2; clear bx hu9; clear qR qB; go_simp; try with_reducible rfl
 refine tke 6 (v := ?v6_14) ?hy6_14 (by assumption) ?rest6_14
 case hy6_14 => rintro wq ⟨qR, qB⟩; obtain ⟨u9, z9, yr9, h9, bx, hu9⟩ := qR.out; have z22 := bx.cells.1; rw [hu9] at z22; have zb1 := qB.out.cell 1; have zb2 := qB.out.cell 2; simp only [lD, lE, lF] at zb1 zb2; clear bx hu9; clear qR qB; go_simp; try with_reducible rfl
 clear hHeld
 refine wpAnyH_ready (rs := [7]) (by kernel_rfl) (by simp) ?_
 refine (AllReadyH.cons (o := _) rfl (fun K hK => ?_) AllReadyH.nil)
 try simp only [lA, lB, lC]
 go_simp
 go_at_call 20
 refine (LT.out.tickR (N % 4294967296) n0 n1).mono ?_
 rintro e w2 ⟨rfl, t2, m2⟩
 have T2 := hid t2
 have B2 := hid (LB.out.opR m2)
 clear t2 m2
 refine hK.out _ _ ⟨hid ⟨_, _, _, _, T2.out.r, rfl⟩, hid B2.out.blk⟩ (fun _ => ?_)
 try simp only [lA, lB, lC]
 refine wpAnyH_done (by kernel_rfl) ?_ _
 go_wp2_with fail
 go_ret
 exact ⟨rfl, _, cs, st, ⟨v, u, hist, cp, cr, gone, HC.out, T2.out⟩, by omega, by omega⟩
set_option maxRecDepth 100000 in
theorem does_4 (T : MB w0 w b1 m v b2 g u x x ⟨cs, cp, gone, st⟩ ⟨cs, cr, st⟩ hist) (hc : sameCut cp cr) (hT : Tab w0) (s0 : 0 ≤ st) (s1 : st ≤ 4000000000000000000) (kind N : Int) (s : ByteArray) (hk : kind = 4) (hs : s.size ≤ 140737488351232) :
 Calls Tryz.prog 6 #[.pointer (some ⟨m, 0, none⟩), .pointer (some ⟨g, 0, none⟩), .agg (stepA kind N s)] w fun e w' => DidS w0 w' b1 m b2 g st e := by
 subst hk
 have T0 := hid (T.step ((Below.refl _ _).alloc (Nat.le_refl _) (.cells (stepA 4 N s) 35)))
 have B0 := hid (MBox.new T (stepA 4 N s) 35)
 have HC := hid hc
 have HT := hid hT
 clear T hc hT
 simp only [stepA]
 go_enter Tryz.func6, Tryz.ntmps6
 go_upto_region 15 with fail
 generalize hg : w.heap.size = kb at B0 ⊢
 generalize hW : w.alloc (.cells (stepA 4 N s) 35) = W at T0 B0
 simp only [stepA] at hW
 rw [hW]
 clear hW hg
 have c1 : W.cell? ⟨kb, 1, none⟩ = some (.int .i64 N) := B0.out.blk.cell 1
 go_upto_region 16 with (go_at_call 21; refine (T0.out.cutP N).mono ?_; rintro e w1 ⟨rfl, t1, m1⟩; have T1 := hid t1; have B1 := hid (B0.out.opP m1); clear t1 m1)
 clear c1 T0 B0
 have c1 : w1.cell? ⟨kb, 1, none⟩ = some (.int .i64 N) := B1.out.blk.cell 1
 have c23 := T1.out.r.cells.2.1
 have f23 := T1.out.r.frozen 23
 have T2 := hid (T1.out.opR (T1.out.r.setCut N) (RMMoves.set _ _ _ _ _))
 go_wp2_with fail
 go_ret
 exact ⟨rfl, x, cs, st, ⟨v, u, hist, cutV N, N, gone, same_cutV N, T2.out⟩, by omega, by omega⟩
set_option maxRecDepth 100000 in
theorem does_5 (T : MB w0 w b1 m v b2 g u x x ⟨cs, cp, gone, st⟩ ⟨cs, cr, st⟩ hist) (hc : sameCut cp cr) (hT : Tab w0) (s0 : 0 ≤ st) (s1 : st ≤ 4000000000000000000) (kind N : Int) (s : ByteArray) (h1 : kind ≠ 1) (h2 : kind ≠ 2) (h3 : kind ≠ 3) (h4 : kind ≠ 4) (hs : s.size ≤ 140737488351232) :
 Calls Tryz.prog 6 #[.pointer (some ⟨m, 0, none⟩), .pointer (some ⟨g, 0, none⟩), .agg (stepA kind N s)] w fun e w' => DidS w0 w' b1 m b2 g st e := by
 have t1 : (kind == 1) = false := by simpa using h1
 have t2 : (kind == 2) = false := by simpa using h2
 have t3 : (kind == 3) = false := by simpa using h3
 have t4 : (kind == 4) = false := by simpa using h4
 clear h1 h2 h3 h4
 have T0 := hid (T.step ((Below.refl _ _).alloc (Nat.le_refl _) (.cells (stepA kind N s) 35)))
 have B0 := hid (MBox.new T (stepA kind N s) 35)
 have HC := hid hc
 have HT := hid hT
 clear T hc hT
 simp only [stepA]
 go_enter Tryz.func6, Tryz.ntmps6
 go_upto_region 18 with fail
 generalize hg : w.heap.size = kb at B0 ⊢
 generalize hW : w.alloc (.cells (stepA kind N s) 35) = W at T0 B0
 simp only [stepA] at hW
 rw [hW]
 clear hW hg
 have c1 : W.cell? ⟨kb, 1, none⟩ = some (.int .i64 N) := B0.out.blk.cell 1
 have n0 : 0 ≤ N % 4294967296 := by omega
 have n1 : N % 4294967296 < 4294967296 := by omega
 have HWP := hid (T0.out.wordP (N % 4294967296) n0 n1)
 have HWR := hid (fun (W' : World) (h : MB w0 W' b1 m v b2 g u x x ⟨cs, cp, gone, st⟩ ⟨cs, cr, st⟩ hist) => h.wordR (N % 4294967296) n0 n1)
 generalize wrdV x (N % 4294967296) = wv at HWP HWR
 generalize wrdOk (N % 4294967296) = wk at HWP HWR
 go_upto_region 19 with (go_at_call 22; refine HWP.out.mono ?_; rintro e w1 ⟨rfl, rfl⟩)
 clear c1 HWP
 have JR : Hid (∃ u9 z9 yr9 h9, RMachAt W.drew b2 g u9 z9 yr9 h9 ∧ u9.b = u.b) := hid (⟨_, _, _, _, (T0.out.step (show Below W.heap.size W W.drew from (Below.refl _ _).drew)).r, rfl⟩)
 have JB : Hid (Blk W.drew kb #[.int .i64 kind, .int .i64 N, .string s] 35) := hid (B0.out.blk.step ((Below.refl _ _).drew))
 have LT := hid (T0.out.step (show Below W.heap.size W W.drew from (Below.refl _ _).drew))
 have LB := hid (B0.out.step (show Below W.heap.size W W.drew from (Below.refl _ _).drew))
 refine wp_region_held_drew (S := (fun w' => Hid (∃ u9 z9 yr9 h9, RMachAt w' b2 g u9 z9 yr9 h9 ∧ u9.b = u.b) ∧ Hid (Blk w' kb #[.int .i64 kind, .int .i64 N, .string s] 35))) (by kernel_rfl) ⟨JR, JB⟩ (fun hHeld => ?_)
 clear hHeld
 generalize W.drew = we at JR JB LT LB ⊢
 have hHeld : ((fun w' => Hid (∃ u9 z9 yr9 h9, RMachAt w' b2 g u9 z9 yr9 h9 ∧ u9.b = u.b) ∧ Hid (Blk w' kb #[.int .i64 kind, .int .i64 N, .string s] 35)) we) := ⟨JR, JB⟩
 refine tke 0 (v := ?v0_15) ?hy0_15 (by assumption) ?rest0_15
 case hy0_15 => rintro wq ⟨qR, qB⟩; obtain ⟨u9, z9, yr9, h9, bx, hu9⟩ := qR.out; have z22 := bx.cells.1; rw [hu9] at z22; have zb1 := qB.out.cell 1; have zb2 := qB.out.cell 2; simp only [lD, lE, lF] at zb1 zb2; clear bx hu9; clear qR qB; go_simp; try with_reducible rfl
 refine tke 1 (v := ?v1_16) ?hy1_16 (by assumption) ?rest1_16
 case hy1_16 => rintro wq ⟨qR, qB⟩; obtain ⟨u9, z9, yr9, h9, bx, hu9⟩ := qR.out; have z22 := bx.cells.1; rw [hu9] at z22; have zb1 := qB.out.cell 1; have zb2 := qB.out.cell 2; simp only [lD, lE, lF] at zb1 zb2; clear bx hu9; clear qR qB; go_simp; try with_reducible rfl
 refine tke 2 (v := ?v2_17) ?hy2_17 (by assumption) ?rest2_17
 case hy2_17 => rintro wq ⟨qR, qB⟩; obtain ⟨u9, z9, yr9, h9, bx, hu9⟩ := qR.out; have z22 := bx.cells.1; rw [hu9] at z22; have zb1 := qB.out.cell 1; have zb2 := qB.out.cell 2; simp only [lD, lE, lF] at zb1 zb2; clear bx hu9; clear qR qB; go_simp; try with_reducible rfl
 refine tke 3 (v := ?v3_18) ?hy3_18 (by assumption) ?rest3_18
 case hy3_18 => rintro wq ⟨qR, qB⟩; obtain ⟨u9, z9, yr9, h9, bx, hu9⟩ := qR.out; have z22 := bx.cells.1; rw [hu9] at z22; have zb1 := qB.out.cell 1; have zb2 := qB.out.cell 2; simp only [lD, lE, lF] at zb1 zb2; clear bx hu9; clear qR qB; go_simp; try with_reducible rfl
 refine tke 4 (v := ?v4_19) ?hy4_19 (by assumption) ?rest4_19
 case hy4_19 => rintro wq ⟨qR, qB⟩; obtain ⟨u9, z9, yr9, h9, bx, hu9⟩ := qR.out; have z22 := bx.cells.1; rw [hu9] at z22; have zb1 := qB.out.cell 1; have zb2 := qB.out.cell 2; simp only [lD, lE, lF] at zb1 zb2; clear bx hu9; clear qR qB; go_simp; try with_reducible rfl
 refine tke 5 (v := ?v5_20) ?hy5_20 (by assumption) ?rest5_20
 case hy5_20 => rintro wq ⟨qR, qB⟩; obtain ⟨u9, z9, yr9, h9, bx, hu9⟩ := qR.out; have z22 := bx.cells.1; rw [hu9] at z22; have zb1 := qB.out.cell 1; have zb2 := qB.out.cell 2; simp only [lD, lE, lF] at zb1 zb2; clear bx hu9; clear qR qB; go_simp; try with_reducible rfl
 refine tke 6 (v := ?v6_21) ?hy6_21 (by assumption) ?rest6_21
 case hy6_21 => rintro wq ⟨qR, qB⟩; obtain ⟨u9, z9, yr9, h9, bx, hu9⟩ := qR.out; have z22 := bx.cells.1; rw [hu9] at z22; have zb1 := qB.out.cell 1; have zb2 := qB.out.cell 2; simp only [lD, lE, lF] at zb1 zb2; clear bx hu9; clear qR qB; go_simp; try with_reducible rfl
 clear hHeld
 refine wpAnyH_ready (rs := [7]) (by kernel_rfl) (by simp) ?_
 refine (AllReadyH.cons (o := _) rfl (fun K hK => ?_) AllReadyH.nil)
 try simp only [lA, lB, lC]
 go_simp
 go_at_call 23
 refine (HWR.out _ LT.out).mono ?_
 rintro e w2 ⟨rfl, rfl⟩
 refine hK.out _ _ ⟨JR, JB⟩ (fun _ => ?_)
 try simp only [lA, lB, lC]
 have hHeld2 : ((fun w' => Hid (∃ u9 z9 yr9 h9, RMachAt w' b2 g u9 z9 yr9 h9 ∧ u9.b = u.b) ∧ Hid (Blk w' kb #[.int .i64 kind, .int .i64 N, .string s] 35)) we) := ⟨JR, JB⟩
 refine tke 8 (v := ?v8_22) ?hy8_22 (by assumption) ?rest8_22
 case hy8_22 => rintro wq ⟨qR, qB⟩; clear qR qB; go_simp; try with_reducible rfl
 refine tke 9 (v := ?v9_23) ?hy9_23 (by assumption) ?rest9_23
 case hy9_23 => rintro wq ⟨qR, qB⟩; clear qR qB; go_simp; try with_reducible rfl
 refine tke 10 (v := ?v10_24) ?hy10_24 (by assumption) ?rest10_24
 case hy10_24 => rintro wq ⟨qR, qB⟩; clear qR qB; go_simp; try with_reducible rfl
 refine tke 11 (v := ?v11_25) ?hy11_25 (by assumption) ?rest11_25
 case hy11_25 => rintro wq ⟨qR, qB⟩; clear qR qB; go_simp; try with_reducible rfl
 refine tke 12 (v := ?v12_26) ?hy12_26 (by assumption) ?rest12_26
 case hy12_26 => rintro wq ⟨qR, qB⟩; clear qR qB; go_simp; try with_reducible rfl
 refine wpAnyH_done (by kernel_rfl) ?_ _
 clear hHeld2
 go_wp2_with fail
 go_ret
 exact ⟨rfl, x, cs, st, ⟨v, u, hist, cp, cr, gone, HC.out, LT.out⟩, by omega, by omega⟩
theorem does_any (T : MB w0 w b1 m v b2 g u x x ⟨cs, cp, gone, st⟩ ⟨cs, cr, st⟩ hist) (hc : sameCut cp cr) (hT : Tab w0) (s0 : 0 ≤ st) (s1 : st ≤ 4000000000000000000) (kind N : Int) (s : ByteArray) (hs : s.size ≤ 140737488351232) :
 Calls Tryz.prog 6 #[.pointer (some ⟨m, 0, none⟩), .pointer (some ⟨g, 0, none⟩), .agg (stepA kind N s)] w fun e w' => DidS w0 w' b1 m b2 g st e := by
 by_cases h1 : kind = 1
 ·exact does_1 T hc hT s0 s1 kind N s h1 hs
 by_cases h2 : kind = 2
 ·exact does_2 T hc hT s0 s1 kind N s h2 hs
 by_cases h3 : kind = 3
 ·exact does_3 T hc hT s0 s1 kind N s h3 hs
 by_cases h4 : kind = 4
 ·exact does_4 T hc hT s0 s1 kind N s h4 hs
 exact does_5 T hc hT s0 s1 kind N s h1 h2 h3 h4 hs
end
end Go.Proofs.YtgcknekhimpfkaaGreatDoor
namespace Go.Proofs.YtgcknekhimpfkaaGreatDoor
open Go Go.RowKit Go.Lib Go.Proofs.YtgcknekhimpfkaaGreatDoor.Pl
set_option linter.unusedVariables false
set_option linter.unusedSimpArgs false
attribute [local go_sem ↓] exec_load_cpu exec_store_cpu
theorem wpAnyH_strong4 {P : Program} {md : Region.Mode} {ops : Array Oper} {Q : Exit → Act → World → Prop} {S S' : World → Prop} (h : ∀ w, S' w → S w) :
 ∀ (fuel : Nat) (listed : Array Bool) (a : Act) (w : World), wpAnyH P md ops Q S' fuel listed a w → wpAnyH P md ops Q S fuel listed a w
 | 0, _, _, _, k => k
 | fuel + 1, _, _, _, k => ⟨k.1, fun i hi => wpOp_mono (fun a' w' hh => ⟨h w' hh.1, wpAnyH_strong4 h fuel _ a' w' hh.2⟩) (k.2 i hi)⟩
section
variable {w : World} {base r : Nat} {vf vw : Value} {N : Nat} {sec0 : Nat → ByteArray} {hist : List (Nat × ByteArray)}
set_option maxRecDepth 100000 in
theorem rcutm_yes (R : RefAt w base r vf vw N sec0 hist) (k : Nat) (hk : k ≤ hist.length) (hbig : hist.length ≤ 4096) (hN : N ≤ 1024) (hs : ∀ i, i < N → (secOf sec0 (hist.take k) i).size = 1024) :
 Calls Tryz.prog 26 #[.pointer (some ⟨r, 0, none⟩), .int .i64 (k : Int)] w fun e w' => e = .returned (.tuple #[.string (ofL (imgL (secOf sec0 (hist.take k)) N)), .int .i64 0]) ∧ Below w.heap.size w w' := by
 obtain ⟨i0, hi, hz0, hz1, hz2⟩ := info_parts info_u8
 have hat := fun (w' : World) (hb : Below w.heap.size w w') (n : Nat) (hn : n < N) => at_any (R.below hb) n hn k hk hbig hN
 have c0 := R.c0
 have c1 := R.c1
 obtain ⟨q, c, rfl⟩ := R.fform
 obtain ⟨q', c', rfl, _⟩ := R.wform
 have HAT := hid hat
 have HBIG := hid hbig
 have HS := hid hs
 have hk2 : (k : Int) ≤ (hist.length : Int) := by omega
 have hk3 : (0 : Int) ≤ (k : Int) := by omega
 have hk4 : decide (hist.length < k) = false := by simpa using hk
 clear hat hbig hs hk
 go_enter Tryz.func26, Tryz.ntmps26
 go_wp2_with fail
 go_loopw [6, 7] (fun v i wr => ∃ j : Nat, j ≤ N ∧ i = .int .i64 j ∧ wr.ownsRow w.heap.size 5 1 v (j * 1024) (strCells (ofL (imgL (secOf sec0 (hist.take k)) j))) ∧ Below w.heap.size w wr) (fun _ i _ => N - (intOf i).toNat)
 case atStart => exact ⟨0, by omega, rfl, ⟨rfl, .inl ⟨rfl, rfl⟩⟩, Below.refl _ _⟩
 case round =>
  obtain ⟨j, hj, rfl, hown, hb⟩ := hrel
  have c0r := (Touch.of_below hb []).cell c0 (by simp)
  by_cases hlt : j < N
  ·have hj2 : (j : Int) < (N : Int) := by omega
   have hat := HAT.out wr hb j hlt
   have hsz := HS.out j hlt
   have hcat : strCells (ofL (imgL (secOf sec0 (hist.take k)) j)) ++ strCells (secOf sec0 (hist.take k) j) = strCells (ofL (imgL (secOf sec0 (hist.take k)) (j + 1))) := by
    rw [imgL_succ, strCells_ofL, strCells_ofL, List.map_append, strCells_data]
   obtain ⟨sj, hsj⟩ : ∃ sj, sj = secOf sec0 (hist.take k) j := ⟨_, rfl⟩
   rw [← hsj] at hcat hat hsz
   have HC := hid hcat
   have HA := hid hat
   have HZ := hid hsz
   have HO := hid hown
   have HB := hid hb
   clear hcat hat hsz hown hb hsj
   go_wp2_with (first | (go_at_call 47; go_must (refine HA.out.mono ?_); rintro e w' ⟨rfl, rfl⟩) | (at_builtin; go_must (refine wpList_append_own_string _ rfl _ _ 69 9 rfl w.heap.size 5 i0 Tryz.underlying69 Tryz.underlying9 hi hz0 hz1 hz2 _ _ _ rfl HO.out sj rfl ?c3 ?c4 ?c5 ?_)))
   case c3 => rw [HZ.out]; unfold maxLen; omega
   case c4 => rw [HZ.out]; omega
   case c5 => exact HB.out.size
   intro v' w1 hown' hgrow _
   have hb1 := HB.out.grown hgrow HB.out.size (fun g hg => by
    rcases HO.out.2 with ⟨rfl, _⟩ | ⟨g', cap, cur, rfl, hbase, _⟩
    ·cases hg
    ·simp [Value.ownBlock] at hg; omega)
   rw [HC.out, HZ.out, show j * 1024 + 1024 = (j + 1) * 1024 from by omega] at hown'
   clear hgrow HO HB
   have HO2 := hid hown'
   have HB2 := hid hb1
   clear hown' hb1
   go_wp2_with fail
   go_roundw
   case rel => exact ⟨j + 1, by omega, by go_num, HO2.out, HB2.out⟩
   case measure => simp [intOf]; omega
  ·obtain rfl : j = N := by omega
   rw [← imgL_length _ j HS.out j (Nat.le_refl _)] at hown
   have hcv := BytesRow.conv hown
   go_wp2_with fail
   go_ret2
   exact ⟨rfl, hb⟩
end
section
variable {w0 w w' : World} {b1 m : Nat} {v v' : BV} {b2 g : Nat} {u u' : RV} {x x' z z' : BS} {y y' : MC} {yr yr' : RMC} {cs : Array Value} {cp cr st : Int} {gone : Bool} {hist hist' : List (Nat × ByteArray)}
theorem MB.cutR (T : MB w0 w b1 m v b2 g u x z y yr hist) :
 Calls Tryz.prog 26 #[.pointer (some ⟨u.r, 0, none⟩), .int .i64 (hist.length : Int)] w fun e w' => e = .returned (.tuple #[.string (ofL (imgL z.sec z.N)), .int .i64 0]) ∧ Below w.heap.size w w' := by
 have hse := T.r.bus.sec
 have := rcutm_yes T.r.bus.disk hist.length (Nat.le_refl _) T.r.bus.few T.r.bus.nb.2 (fun i hi => by rw [List.take_length, ← hse]; exact T.r.bus.slen i hi)
 rw [List.take_length, ← hse] at this
 exact this
theorem MB.wlen (T : MB w0 w b1 m v b2 g u x z y yr hist) : z.ws.length = hist.length := by rw [T.r.bus.ws, rolds_length]
theorem MB.writesP (T : MB w0 w b1 m v b2 g u x x y yr hist) : Calls Tryz.prog 30 #[.pointer (some ⟨v.d, 0, none⟩)] w fun e w' => ∃ a c', e = .returned (.slice a hist.length c') ∧ Below w.heap.size w w' := by
 have := bwrites_any T.p.bus
 rw [T.wlen] at this
 exact this
set_option maxRecDepth 100000 in
theorem stands_any (T : MB w0 w b1 m v b2 g u x x ⟨cs, cp, gone, st⟩ ⟨cs, cr, st⟩ hist) :
 Calls Tryz.prog 7 #[.pointer (some ⟨m, 0, none⟩), .pointer (some ⟨g, 0, none⟩)] w fun e w' => e = .returned (.bool true) ∧ Below w.heap.size w w' := by
 have HOK := hid T.p.ok
 have T0 := hid T
 obtain ⟨q, cq, hv, _⟩ := T.r.bus.disk.wform
 have HVW := hid hv
 clear T hv
 go_enter Tryz.func7, Tryz.ntmps7
 go_upto_region 2 with (go_at_call 12; refine (mCpu_any T0.out.p).mono ?_; rintro e w1 ⟨rfl, hb1⟩; have hs5 := store_new (w := w1) (Z := #[.int .u32 0, .int .u32 0, .int .u32 0, .int .u32 0, .int .u32 0, .int .u32 0, .int .u32 0, .int .u32 0, .int .u32 0, .int .u32 0, .int .u32 0, .int .u32 0, .int .u32 0, .int .u32 0, .int .u32 0, .int .u32 0, .int .u32 0, .bool false, .bool false, .bool false, .bool false, .int .u32 0]) (cs := cs) (t := 50) rfl HOK.out.size HOK.out.one; have hal : Below w1.heap.size w1 (w1.alloc (.cells cs 50)) := (Below.refl _ _).alloc (Nat.le_refl _) _; have T1 := hid ((T0.out.step hb1).step hal); have C1 := hid (Blk.new w1 cs 50); have HB1 := hid (hb1.trans (hal.mono hb1.size)); clear hb1 hal)
 clear hs5 T0
 generalize w1.alloc (.cells cs 50) = wa at T1 C1 HB1 ⊢
 generalize w1.heap.size = gc at C1 ⊢
 go_upto_region 3 with (go_at_call 24; refine (mSteps_any T1.out.p).mono ?_; rintro e w2 ⟨rfl, rfl⟩)
 go_upto_region 4 with (go_at_call 25; refine (mOut_any T1.out.p).mono ?_; rintro e w2 ⟨rfl, rfl⟩)
 have JT : Hid (MB w0 wa.drew b1 m v b2 g u x x ⟨cs, cp, gone, st⟩ ⟨cs, cr, st⟩ hist) := hid (T1.out.step ((Below.refl _ _).drew))
 have JC : Hid (Blk wa.drew gc cs 50) := hid (C1.out.step ((Below.refl _ _).drew))
 have JB : Hid (Below w.heap.size w wa.drew) := hid (HB1.out.trans ((show Below wa.heap.size wa wa.drew from ((Below.refl _ _).drew)).mono HB1.out.size))
 refine wp_region_held_drew (S := (fun w' => Hid (MB w0 w' b1 m v b2 g u x x ⟨cs, cp, gone, st⟩ ⟨cs, cr, st⟩ hist) ∧ Hid (Blk w' gc cs 50) ∧ Hid (Below w.heap.size w w'))) (by kernel_rfl) ⟨JT, JC, JB⟩ (fun hHeld => ?_)
 clear hHeld
 generalize wa.drew = wd at JT JC JB ⊢
 have hHeld : ((fun w' => Hid (MB w0 w' b1 m v b2 g u x x ⟨cs, cp, gone, st⟩ ⟨cs, cr, st⟩ hist) ∧ Hid (Blk w' gc cs 50) ∧ Hid (Below w.heap.size w w')) wd) := ⟨JT, JC, JB⟩
 refine tke 0 (v := ?v0_1) ?hy0_1 (by assumption) ?rest0_1
 case hy0_1 => rintro wq ⟨qT, qC, qB⟩; have z22 := qT.out.r.cells.1; have zb1 := qT.out.r.bus.cells.2.1; have zw := qT.out.r.bus.disk.c1; rw [HVW.out] at zw; have z24 := qT.out.r.cells.2.2; have zc := qT.out.r.loadCpu; have zk := load_cpu qC.out HOK.out.size; clear qT qC qB; simp only [lA, lB, lC]; go_simp; try with_reducible rfl
 refine tke 1 (v := ?v1_2) ?hy1_2 (by assumption) ?rest1_2
 case hy1_2 => rintro wq ⟨qT, qC, qB⟩; have z22 := qT.out.r.cells.1; have zb1 := qT.out.r.bus.cells.2.1; have zw := qT.out.r.bus.disk.c1; rw [HVW.out] at zw; have z24 := qT.out.r.cells.2.2; have zc := qT.out.r.loadCpu; have zk := load_cpu qC.out HOK.out.size; clear qT qC qB; simp only [lA, lB, lC]; go_simp; try with_reducible rfl
 refine tke 2 (v := ?v2_3) ?hy2_3 (by assumption) ?rest2_3
 case hy2_3 => rintro wq ⟨qT, qC, qB⟩; have z22 := qT.out.r.cells.1; have zb1 := qT.out.r.bus.cells.2.1; have zw := qT.out.r.bus.disk.c1; rw [HVW.out] at zw; have z24 := qT.out.r.cells.2.2; have zc := qT.out.r.loadCpu; have zk := load_cpu qC.out HOK.out.size; clear qT qC qB; simp only [lA, lB, lC]; go_simp; try with_reducible rfl
 refine tke 3 (v := ?v3_4) ?hy3_4 (by assumption) ?rest3_4
 case hy3_4 => rintro wq ⟨qT, qC, qB⟩; have z22 := qT.out.r.cells.1; have zb1 := qT.out.r.bus.cells.2.1; have zw := qT.out.r.bus.disk.c1; rw [HVW.out] at zw; have z24 := qT.out.r.cells.2.2; have zc := qT.out.r.loadCpu; have zk := load_cpu qC.out HOK.out.size; clear qT qC qB; simp only [lA, lB, lC]; go_simp; try with_reducible rfl
 refine tke 4 (v := ?v4_5) ?hy4_5 (by assumption) ?rest4_5
 case hy4_5 => rintro wq ⟨qT, qC, qB⟩; have z22 := qT.out.r.cells.1; have zb1 := qT.out.r.bus.cells.2.1; have zw := qT.out.r.bus.disk.c1; rw [HVW.out] at zw; have z24 := qT.out.r.cells.2.2; have zc := qT.out.r.loadCpu; have zk := load_cpu qC.out HOK.out.size; clear qT qC qB; simp only [lA, lB, lC]; go_simp; try with_reducible rfl
 refine tke 5 (v := ?v5_6) ?hy5_6 (by assumption) ?rest5_6
 case hy5_6 => rintro wq ⟨qT, qC, qB⟩; have z22 := qT.out.r.cells.1; have zb1 := qT.out.r.bus.cells.2.1; have zw := qT.out.r.bus.disk.c1; rw [HVW.out] at zw; have z24 := qT.out.r.cells.2.2; have zc := qT.out.r.loadCpu; have zk := load_cpu qC.out HOK.out.size; clear qT qC qB; simp only [lA, lB, lC]; go_simp; try with_reducible rfl
 refine tke 6 (v := ?v6_7) ?hy6_7 (by assumption) ?rest6_7
 case hy6_7 => rintro wq ⟨qT, qC, qB⟩; have z22 := qT.out.r.cells.1; have zb1 := qT.out.r.bus.cells.2.1; have zw := qT.out.r.bus.disk.c1; rw [HVW.out] at zw; have z24 := qT.out.r.cells.2.2; have zc := qT.out.r.loadCpu; have zk := load_cpu qC.out HOK.out.size; clear qT qC qB; simp only [lA, lB, lC]; go_simp; try with_reducible rfl
 refine tke 7 (v := ?v7_8) ?hy7_8 (by assumption) ?rest7_8
 case hy7_8 => rintro wq ⟨qT, qC, qB⟩; have z22 := qT.out.r.cells.1; have zb1 := qT.out.r.bus.cells.2.1; have zw := qT.out.r.bus.disk.c1; rw [HVW.out] at zw; have z24 := qT.out.r.cells.2.2; have zc := qT.out.r.loadCpu; have zk := load_cpu qC.out HOK.out.size; clear qT qC qB; simp only [lA, lB, lC]; go_simp; try with_reducible rfl
 refine tke 8 (v := ?v8_9) ?hy8_9 (by assumption) ?rest8_9
 case hy8_9 => rintro wq ⟨qT, qC, qB⟩; have z22 := qT.out.r.cells.1; have zb1 := qT.out.r.bus.cells.2.1; have zw := qT.out.r.bus.disk.c1; rw [HVW.out] at zw; have z24 := qT.out.r.cells.2.2; have zc := qT.out.r.loadCpu; have zk := load_cpu qC.out HOK.out.size; clear qT qC qB; simp only [lA, lB, lC]; go_simp; try with_reducible rfl
 refine tke 9 (v := ?v9_10) ?hy9_10 (by assumption) ?rest9_10
 case hy9_10 => rintro wq ⟨qT, qC, qB⟩; have z22 := qT.out.r.cells.1; have zb1 := qT.out.r.bus.cells.2.1; have zw := qT.out.r.bus.disk.c1; rw [HVW.out] at zw; have z24 := qT.out.r.cells.2.2; have zc := qT.out.r.loadCpu; have zk := load_cpu qC.out HOK.out.size; clear qT qC qB; simp only [lA, lB, lC]; go_simp; try with_reducible rfl
 refine tke 10 (v := ?v10_11) ?hy10_11 (by assumption) ?rest10_11
 case hy10_11 => rintro wq ⟨qT, qC, qB⟩; have z22 := qT.out.r.cells.1; have zb1 := qT.out.r.bus.cells.2.1; have zw := qT.out.r.bus.disk.c1; rw [HVW.out] at zw; have z24 := qT.out.r.cells.2.2; have zc := qT.out.r.loadCpu; have zk := load_cpu qC.out HOK.out.size; clear qT qC qB; simp only [lA, lB, lC]; go_simp; try with_reducible rfl
 refine tke 11 (v := ?v11_12) ?hy11_12 (by assumption) ?rest11_12
 case hy11_12 => rintro wq ⟨qT, qC, qB⟩; have z22 := qT.out.r.cells.1; have zb1 := qT.out.r.bus.cells.2.1; have zw := qT.out.r.bus.disk.c1; rw [HVW.out] at zw; have z24 := qT.out.r.cells.2.2; have zc := qT.out.r.loadCpu; have zk := load_cpu qC.out HOK.out.size; clear qT qC qB; simp only [lA, lB, lC]; go_simp; try with_reducible rfl
 refine tke 12 (v := ?v12_13) ?hy12_13 (by assumption) ?rest12_13
 case hy12_13 => rintro wq ⟨qT, qC, qB⟩; have z22 := qT.out.r.cells.1; have zb1 := qT.out.r.bus.cells.2.1; have zw := qT.out.r.bus.disk.c1; rw [HVW.out] at zw; have z24 := qT.out.r.cells.2.2; have zc := qT.out.r.loadCpu; have zk := load_cpu qC.out HOK.out.size; clear qT qC qB; simp only [lA, lB, lC]; go_simp; try with_reducible rfl
 refine tke 13 (v := ?v13_14) ?hy13_14 (by assumption) ?rest13_14
 case hy13_14 => rintro wq ⟨qT, qC, qB⟩; have z22 := qT.out.r.cells.1; have zb1 := qT.out.r.bus.cells.2.1; have zw := qT.out.r.bus.disk.c1; rw [HVW.out] at zw; have z24 := qT.out.r.cells.2.2; have zc := qT.out.r.loadCpu; have zk := load_cpu qC.out HOK.out.size; clear qT qC qB; simp only [lA, lB, lC]; go_simp; try with_reducible rfl
 refine tke 14 (v := ?v14_15) ?hy14_15 (by assumption) ?rest14_15
 case hy14_15 => rintro wq ⟨qT, qC, qB⟩; have z22 := qT.out.r.cells.1; have zb1 := qT.out.r.bus.cells.2.1; have zw := qT.out.r.bus.disk.c1; rw [HVW.out] at zw; have z24 := qT.out.r.cells.2.2; have zc := qT.out.r.loadCpu; have zk := load_cpu qC.out HOK.out.size; clear qT qC qB; simp only [lA, lB, lC]; go_simp; try with_reducible rfl
 refine tke 15 (v := ?v15_16) ?hy15_16 (by assumption) ?rest15_16
 case hy15_16 => rintro wq ⟨qT, qC, qB⟩; have z22 := qT.out.r.cells.1; have zb1 := qT.out.r.bus.cells.2.1; have zw := qT.out.r.bus.disk.c1; rw [HVW.out] at zw; have z24 := qT.out.r.cells.2.2; have zc := qT.out.r.loadCpu; have zk := load_cpu qC.out HOK.out.size; clear qT qC qB; simp only [lA, lB, lC]; go_simp; try with_reducible rfl
 refine tke 16 (v := ?v16_17) ?hy16_17 (by assumption) ?rest16_17
 case hy16_17 => rintro wq ⟨qT, qC, qB⟩; have z22 := qT.out.r.cells.1; have zb1 := qT.out.r.bus.cells.2.1; have zw := qT.out.r.bus.disk.c1; rw [HVW.out] at zw; have z24 := qT.out.r.cells.2.2; have zc := qT.out.r.loadCpu; have zk := load_cpu qC.out HOK.out.size; clear qT qC qB; simp only [lA, lB, lC]; go_simp; try with_reducible rfl
 refine tke 17 (v := ?v17_18) ?hy17_18 (by assumption) ?rest17_18
 case hy17_18 => rintro wq ⟨qT, qC, qB⟩; have z22 := qT.out.r.cells.1; have zb1 := qT.out.r.bus.cells.2.1; have zw := qT.out.r.bus.disk.c1; rw [HVW.out] at zw; have z24 := qT.out.r.cells.2.2; have zc := qT.out.r.loadCpu; have zk := load_cpu qC.out HOK.out.size; clear qT qC qB; simp only [lA, lB, lC]; go_simp; try with_reducible rfl
 clear hHeld
 refine wpAnyH_ready (rs := [18]) (by kernel_rfl) (by simp) ?_
 refine (AllReadyH.cons (o := _) rfl (fun K hK => ?_) AllReadyH.nil)
 try simp only [lA, lB, lC]
 go_simp
 go_at_call 26
 refine (JT.out.cutR).mono ?_
 rintro e we ⟨rfl, hb⟩
 have T2 := hid (JT.out.step hb)
 have C2 := hid (JC.out.step hb)
 have B2 := hid (JB.out.trans (hb.mono JB.out.size))
 clear hb JT JC JB
 refine hK.out _ _ ⟨T2, C2, B2⟩ (fun _ => ?_)
 try simp only [lA, lB, lC]
 have hHeld2 : ((fun w' => Hid (MB w0 w' b1 m v b2 g u x x ⟨cs, cp, gone, st⟩ ⟨cs, cr, st⟩ hist) ∧ Hid (Blk w' gc cs 50) ∧ Hid (Below w.heap.size w w')) we) := ⟨T2, C2, B2⟩
 refine tke 19 (v := ?v19_19) ?hy19_19 (by assumption) ?rest19_19
 case hy19_19 => rintro wq ⟨qT, qC, qB⟩; clear qT qC qB; go_simp; try with_reducible rfl
 refine tke 20 (v := ?v20_20) ?hy20_20 (by assumption) ?rest20_20
 case hy20_20 => rintro wq ⟨qT, qC, qB⟩; clear qT qC qB; go_simp; try with_reducible rfl
 refine tke 21 (v := ?v21_21) ?hy21_21 (by assumption) ?rest21_21
 case hy21_21 => rintro wq ⟨qT, qC, qB⟩; clear qT qC qB; go_simp; try with_reducible rfl
 refine tke 22 (v := ?v22_22) ?hy22_22 (by assumption) ?rest22_22
 case hy22_22 => rintro wq ⟨qT, qC, qB⟩; clear qT qC qB; go_simp; try with_reducible rfl
 refine tke 23 (v := ?v23_23) ?hy23_23 (by assumption) ?rest23_23
 case hy23_23 => rintro wq ⟨qT, qC, qB⟩; clear qT qC qB; go_simp; try with_reducible rfl
 refine wpAnyH_done (by kernel_rfl) ?_ _
 clear hHeld2 T1 C1 HB1
 have heq := fun (W : World) => run_eql_cpu HOK.out W
 go_upto_region 5 with fail
 have JT : Hid (MB w0 we.drew b1 m v b2 g u x x ⟨cs, cp, gone, st⟩ ⟨cs, cr, st⟩ hist) := hid (T2.out.step ((Below.refl _ _).drew))
 have JC : Hid (Blk we.drew gc cs 50) := hid (C2.out.step ((Below.refl _ _).drew))
 have JB : Hid (Below w.heap.size w we.drew) := hid (B2.out.trans ((show Below we.heap.size we we.drew from ((Below.refl _ _).drew)).mono B2.out.size))
 refine wp_region_held_drew (S := (fun w' => Hid (MB w0 w' b1 m v b2 g u x x ⟨cs, cp, gone, st⟩ ⟨cs, cr, st⟩ hist) ∧ Hid (Blk w' gc cs 50) ∧ Hid (Below w.heap.size w w'))) (by kernel_rfl) ⟨JT, JC, JB⟩ (fun hHeld => ?_)
 clear hHeld
 generalize we.drew = wf at JT JC JB ⊢
 have hHeld : ((fun w' => Hid (MB w0 w' b1 m v b2 g u x x ⟨cs, cp, gone, st⟩ ⟨cs, cr, st⟩ hist) ∧ Hid (Blk w' gc cs 50) ∧ Hid (Below w.heap.size w w')) wf) := ⟨JT, JC, JB⟩
 refine tke 0 (v := ?v0_24) ?hy0_24 (by assumption) ?rest0_24
 case hy0_24 => rintro wq ⟨qT, qC, qB⟩; have z22 := qT.out.r.cells.1; have zb1 := qT.out.r.bus.cells.2.1; have zw := qT.out.r.bus.disk.c1; rw [HVW.out] at zw; have z24 := qT.out.r.cells.2.2; have zc := qT.out.r.loadCpu; have zk := load_cpu qC.out HOK.out.size; clear qT qC qB; simp only [lA, lB, lC]; go_simp; try with_reducible rfl
 refine tke 1 (v := ?v1_25) ?hy1_25 (by assumption) ?rest1_25
 case hy1_25 => rintro wq ⟨qT, qC, qB⟩; have z22 := qT.out.r.cells.1; have zb1 := qT.out.r.bus.cells.2.1; have zw := qT.out.r.bus.disk.c1; rw [HVW.out] at zw; have z24 := qT.out.r.cells.2.2; have zc := qT.out.r.loadCpu; have zk := load_cpu qC.out HOK.out.size; clear qT qC qB; simp only [lA, lB, lC]; go_simp; try with_reducible rfl
 refine tke 2 (v := ?v2_26) ?hy2_26 (by assumption) ?rest2_26
 case hy2_26 => rintro wq ⟨qT, qC, qB⟩; have z22 := qT.out.r.cells.1; have zb1 := qT.out.r.bus.cells.2.1; have zw := qT.out.r.bus.disk.c1; rw [HVW.out] at zw; have z24 := qT.out.r.cells.2.2; have zc := qT.out.r.loadCpu; have zk := load_cpu qC.out HOK.out.size; clear qT qC qB; simp only [lA, lB, lC]; go_simp; try with_reducible rfl
 refine tke 3 (v := ?v3_27) ?hy3_27 (by assumption) ?rest3_27
 case hy3_27 => rintro wq ⟨qT, qC, qB⟩; have z22 := qT.out.r.cells.1; have zb1 := qT.out.r.bus.cells.2.1; have zw := qT.out.r.bus.disk.c1; rw [HVW.out] at zw; have z24 := qT.out.r.cells.2.2; have zc := qT.out.r.loadCpu; have zk := load_cpu qC.out HOK.out.size; clear qT qC qB; simp only [lA, lB, lC]; go_simp; try with_reducible rfl
 refine tke 4 (v := ?v4_28) ?hy4_28 (by assumption) ?rest4_28
 case hy4_28 => rintro wq ⟨qT, qC, qB⟩; have z22 := qT.out.r.cells.1; have zb1 := qT.out.r.bus.cells.2.1; have zw := qT.out.r.bus.disk.c1; rw [HVW.out] at zw; have z24 := qT.out.r.cells.2.2; have zc := qT.out.r.loadCpu; have zk := load_cpu qC.out HOK.out.size; clear qT qC qB; simp only [lA, lB, lC]; go_simp; try with_reducible rfl
 refine tke 5 (v := ?v5_29) ?hy5_29 (by assumption) ?rest5_29
 case hy5_29 => rintro wq ⟨qT, qC, qB⟩; have z0 := run_eql_cpu HOK.out wq; clear qT qC qB; go_simp; try with_reducible rfl
 refine tke 6 (v := ?v6_30) ?hy6_30 (by assumption) ?rest6_30
 case hy6_30 => rintro wq ⟨qT, qC, qB⟩; have z22 := qT.out.r.cells.1; have zb1 := qT.out.r.bus.cells.2.1; have zw := qT.out.r.bus.disk.c1; rw [HVW.out] at zw; have z24 := qT.out.r.cells.2.2; have zc := qT.out.r.loadCpu; have zk := load_cpu qC.out HOK.out.size; clear qT qC qB; simp only [lA, lB, lC]; go_simp; try with_reducible rfl
 refine tke 7 (v := ?v7_31) ?hy7_31 (by assumption) ?rest7_31
 case hy7_31 => rintro wq ⟨qT, qC, qB⟩; have z22 := qT.out.r.cells.1; have zb1 := qT.out.r.bus.cells.2.1; have zw := qT.out.r.bus.disk.c1; rw [HVW.out] at zw; have z24 := qT.out.r.cells.2.2; have zc := qT.out.r.loadCpu; have zk := load_cpu qC.out HOK.out.size; clear qT qC qB; simp only [lA, lB, lC]; go_simp; try with_reducible rfl
 refine tke 8 (v := ?v8_32) ?hy8_32 (by assumption) ?rest8_32
 case hy8_32 => rintro wq ⟨qT, qC, qB⟩; have z22 := qT.out.r.cells.1; have zb1 := qT.out.r.bus.cells.2.1; have zw := qT.out.r.bus.disk.c1; rw [HVW.out] at zw; have z24 := qT.out.r.cells.2.2; have zc := qT.out.r.loadCpu; have zk := load_cpu qC.out HOK.out.size; clear qT qC qB; simp only [lA, lB, lC]; go_simp; try with_reducible rfl
 refine tke 9 (v := ?v9_33) ?hy9_33 (by assumption) ?rest9_33
 case hy9_33 => rintro wq ⟨qT, qC, qB⟩; have z22 := qT.out.r.cells.1; have zb1 := qT.out.r.bus.cells.2.1; have zw := qT.out.r.bus.disk.c1; rw [HVW.out] at zw; have z24 := qT.out.r.cells.2.2; have zc := qT.out.r.loadCpu; have zk := load_cpu qC.out HOK.out.size; clear qT qC qB; simp only [lA, lB, lC]; go_simp; try with_reducible rfl
 refine tke 10 (v := ?v10_34) ?hy10_34 (by assumption) ?rest10_34
 case hy10_34 => rintro wq ⟨qT, qC, qB⟩; have z22 := qT.out.r.cells.1; have zb1 := qT.out.r.bus.cells.2.1; have zw := qT.out.r.bus.disk.c1; rw [HVW.out] at zw; have z24 := qT.out.r.cells.2.2; have zc := qT.out.r.loadCpu; have zk := load_cpu qC.out HOK.out.size; clear qT qC qB; simp only [lA, lB, lC]; go_simp; try with_reducible rfl
 refine tke 11 (v := ?v11_35) ?hy11_35 (by assumption) ?rest11_35
 case hy11_35 => rintro wq ⟨qT, qC, qB⟩; have z22 := qT.out.r.cells.1; have zb1 := qT.out.r.bus.cells.2.1; have zw := qT.out.r.bus.disk.c1; rw [HVW.out] at zw; have z24 := qT.out.r.cells.2.2; have zc := qT.out.r.loadCpu; have zk := load_cpu qC.out HOK.out.size; clear qT qC qB; simp only [lA, lB, lC]; go_simp; try with_reducible rfl
 refine tke 12 (v := ?v12_36) ?hy12_36 (by assumption) ?rest12_36
 case hy12_36 => rintro wq ⟨qT, qC, qB⟩; have z22 := qT.out.r.cells.1; have zb1 := qT.out.r.bus.cells.2.1; have zw := qT.out.r.bus.disk.c1; rw [HVW.out] at zw; have z24 := qT.out.r.cells.2.2; have zc := qT.out.r.loadCpu; have zk := load_cpu qC.out HOK.out.size; clear qT qC qB; simp only [lA, lB, lC]; go_simp; try with_reducible rfl
 refine tke 13 (v := ?v13_37) ?hy13_37 (by assumption) ?rest13_37
 case hy13_37 => rintro wq ⟨qT, qC, qB⟩; have z22 := qT.out.r.cells.1; have zb1 := qT.out.r.bus.cells.2.1; have zw := qT.out.r.bus.disk.c1; rw [HVW.out] at zw; have z24 := qT.out.r.cells.2.2; have zc := qT.out.r.loadCpu; have zk := load_cpu qC.out HOK.out.size; clear qT qC qB; simp only [lA, lB, lC]; go_simp; try with_reducible rfl
 refine tke 14 (v := ?v14_38) ?hy14_38 (by assumption) ?rest14_38
 case hy14_38 => rintro wq ⟨qT, qC, qB⟩; have z22 := qT.out.r.cells.1; have zb1 := qT.out.r.bus.cells.2.1; have zw := qT.out.r.bus.disk.c1; rw [HVW.out] at zw; have z24 := qT.out.r.cells.2.2; have zc := qT.out.r.loadCpu; have zk := load_cpu qC.out HOK.out.size; clear qT qC qB; simp only [lA, lB, lC]; go_simp; try with_reducible rfl
 refine tke 15 (v := ?v15_39) ?hy15_39 (by assumption) ?rest15_39
 case hy15_39 => rintro wq ⟨qT, qC, qB⟩; have z22 := qT.out.r.cells.1; have zb1 := qT.out.r.bus.cells.2.1; have zw := qT.out.r.bus.disk.c1; rw [HVW.out] at zw; have z24 := qT.out.r.cells.2.2; have zc := qT.out.r.loadCpu; have zk := load_cpu qC.out HOK.out.size; clear qT qC qB; simp only [lA, lB, lC]; go_simp; try with_reducible rfl
 refine tke 16 (v := ?v16_40) ?hy16_40 (by assumption) ?rest16_40
 case hy16_40 => rintro wq ⟨qT, qC, qB⟩; have z22 := qT.out.r.cells.1; have zb1 := qT.out.r.bus.cells.2.1; have zw := qT.out.r.bus.disk.c1; rw [HVW.out] at zw; have z24 := qT.out.r.cells.2.2; have zc := qT.out.r.loadCpu; have zk := load_cpu qC.out HOK.out.size; clear qT qC qB; simp only [lA, lB, lC]; go_simp; try with_reducible rfl
 refine tke 17 (v := ?v17_41) ?hy17_41 (by assumption) ?rest17_41
 case hy17_41 => rintro wq ⟨qT, qC, qB⟩; have z22 := qT.out.r.cells.1; have zb1 := qT.out.r.bus.cells.2.1; have zw := qT.out.r.bus.disk.c1; rw [HVW.out] at zw; have z24 := qT.out.r.cells.2.2; have zc := qT.out.r.loadCpu; have zk := load_cpu qC.out HOK.out.size; clear qT qC qB; simp only [lA, lB, lC]; go_simp; try with_reducible rfl
 refine tke 18 (v := ?v18_42) ?hy18_42 (by assumption) ?rest18_42
 case hy18_42 => rintro wq ⟨qT, qC, qB⟩; have z22 := qT.out.r.cells.1; have zb1 := qT.out.r.bus.cells.2.1; have zw := qT.out.r.bus.disk.c1; rw [HVW.out] at zw; have z24 := qT.out.r.cells.2.2; have zc := qT.out.r.loadCpu; have zk := load_cpu qC.out HOK.out.size; clear qT qC qB; simp only [lA, lB, lC]; go_simp; try with_reducible rfl
 refine tke 19 (v := ?v19_43) ?hy19_43 (by assumption) ?rest19_43
 case hy19_43 => rintro wq ⟨qT, qC, qB⟩; have z22 := qT.out.r.cells.1; have zb1 := qT.out.r.bus.cells.2.1; have zw := qT.out.r.bus.disk.c1; rw [HVW.out] at zw; have z24 := qT.out.r.cells.2.2; have zc := qT.out.r.loadCpu; have zk := load_cpu qC.out HOK.out.size; clear qT qC qB; simp only [lA, lB, lC]; go_simp; try with_reducible rfl
 clear hHeld T2 C2 B2
 refine wpAnyH_ready (rs := [20]) (by kernel_rfl) (by simp) ?_
 refine (AllReadyH.cons (o := _) rfl (fun K hK => ?_) AllReadyH.nil)
 try simp only [lA, lB, lC]
 go_simp
 go_at_call 27
 refine (rout_any JT.out.r.bus).mono ?_
 rintro e wz ⟨rfl, rfl⟩
 refine hK.out _ _ ⟨JT, JC, JB⟩ (fun _ => ?_)
 try simp only [lA, lB, lC]
 have hHeld3 : ((fun w' => Hid (MB w0 w' b1 m v b2 g u x x ⟨cs, cp, gone, st⟩ ⟨cs, cr, st⟩ hist) ∧ Hid (Blk w' gc cs 50) ∧ Hid (Below w.heap.size w w')) wf) := ⟨JT, JC, JB⟩
 refine tke 21 (v := ?v21_44) ?hy21_44 (by assumption) ?rest21_44
 case hy21_44 => rintro wq ⟨qT, qC, qB⟩; clear qT qC qB; go_simp; try with_reducible rfl
 refine tke 22 (v := ?v22_45) ?hy22_45 (by assumption) ?rest22_45
 case hy22_45 => rintro wq ⟨qT, qC, qB⟩; clear qT qC qB; go_simp; try with_reducible rfl
 refine tke 23 (v := ?v23_46) ?hy23_46 (by assumption) ?rest23_46
 case hy23_46 => rintro wq ⟨qT, qC, qB⟩; clear qT qC qB; go_simp; try with_reducible rfl
 refine tke 24 (v := ?v24_47) ?hy24_47 (by assumption) ?rest24_47
 case hy24_47 => rintro wq ⟨qT, qC, qB⟩; clear qT qC qB; go_simp; try with_reducible rfl
 refine tke 28 (v := ?v28_48) ?hy28_48 (by assumption) ?rest28_48
 case hy28_48 => rintro wq ⟨qT, qC, qB⟩; clear qT qC qB; go_simp; try with_reducible rfl
 clear hHeld3
 refine wpAnyH_ready (rs := [25]) (by kernel_rfl) (by simp) ?_
 refine (AllReadyH.cons (o := _) rfl (fun K hK => ?_) AllReadyH.nil)
 try simp only [lA, lB, lC]
 go_simp
 go_at_call 28
 refine (mDisk_any JT.out.p).mono ?_
 rintro e wz ⟨rfl, rfl⟩
 refine hK.out _ _ ⟨JT, JC, JB⟩ (fun _ => ?_)
 try simp only [lA, lB, lC]
 refine wpAnyH_ready (rs := [26]) (by kernel_rfl) (by simp) ?_
 refine (AllReadyH.cons (o := _) rfl (fun K hK => ?_) AllReadyH.nil)
 try simp only [lA, lB, lC]
 go_simp
 go_at_call 29
 refine (image_any JT.out.p.bus.disk).mono ?_
 rintro e wg ⟨qv, rfl, hrow, hb⟩
 have NT := hid (JT.out.step hb)
 have NC := hid (JC.out.step hb)
 have NB := hid (JB.out.trans (hb.mono JB.out.size))
 have NR := hid hrow
 clear hb hrow JT JC JB
 refine hK.out _ _ ⟨NT, NC, NB⟩ (fun _ => ?_)
 try simp only [lA, lB, lC]
 refine wpAnyH_strong4 (S' := (fun w' => Hid (MB w0 w' b1 m v b2 g u x x ⟨cs, cp, gone, st⟩ ⟨cs, cr, st⟩ hist) ∧ Hid (Blk w' gc cs 50) ∧ Hid (Below w.heap.size w w') ∧ Hid (BytesRow w' wf.heap.size qv (imgL x.sec x.N)))) (fun _ h => ⟨h.1, h.2.1, h.2.2.1⟩) _ _ _ _ ?_
 have hHeld4 : ((fun w' => Hid (MB w0 w' b1 m v b2 g u x x ⟨cs, cp, gone, st⟩ ⟨cs, cr, st⟩ hist) ∧ Hid (Blk w' gc cs 50) ∧ Hid (Below w.heap.size w w') ∧ Hid (BytesRow w' wf.heap.size qv (imgL x.sec x.N))) wg) := ⟨NT, NC, NB, NR⟩
 refine tke 27 (v := ?v27_49) ?hy27_49 (by assumption) ?rest27_49
 case hy27_49 => rintro wq ⟨qT, qC, qB, qR⟩; have z0 := qR.out.conv; clear qT qC qB qR; go_simp; try with_reducible rfl
 refine tke 29 (v := ?v29_50) ?hy29_50 (by assumption) ?rest29_50
 case hy29_50 => rintro wq ⟨qT, qC, qB, qR⟩; clear qT qC qB qR; go_simp; try with_reducible rfl
 refine tke 30 (v := ?v30_51) ?hy30_51 (by assumption) ?rest30_51
 case hy30_51 => rintro wq ⟨qT, qC, qB, qR⟩; clear qT qC qB qR; go_simp; try with_reducible rfl
 refine tke 31 (v := ?v31_52) ?hy31_52 (by assumption) ?rest31_52
 case hy31_52 => rintro wq ⟨qT, qC, qB, qR⟩; clear qT qC qB qR; go_simp; try with_reducible rfl
 refine tke 32 (v := ?v32_53) ?hy32_53 (by assumption) ?rest32_53
 case hy32_53 => rintro wq ⟨qT, qC, qB, qR⟩; clear qT qC qB qR; go_simp; try with_reducible rfl
 refine tke 36 (v := ?v36_54) ?hy36_54 (by assumption) ?rest36_54
 case hy36_54 => rintro wq ⟨qT, qC, qB, qR⟩; have z22 := qT.out.r.cells.1; have zb1 := qT.out.r.bus.cells.2.1; have zw := qT.out.r.bus.disk.c1; rw [HVW.out] at zw; have z24 := qT.out.r.cells.2.2; have zc := qT.out.r.loadCpu; have zk := load_cpu qC.out HOK.out.size; clear qT qC qB qR; simp only [lA, lB, lC]; go_simp; try with_reducible rfl
 refine tke 37 (v := ?v37_55) ?hy37_55 (by assumption) ?rest37_55
 case hy37_55 => rintro wq ⟨qT, qC, qB, qR⟩; have z22 := qT.out.r.cells.1; have zb1 := qT.out.r.bus.cells.2.1; have zw := qT.out.r.bus.disk.c1; rw [HVW.out] at zw; have z24 := qT.out.r.cells.2.2; have zc := qT.out.r.loadCpu; have zk := load_cpu qC.out HOK.out.size; clear qT qC qB qR; simp only [lA, lB, lC]; go_simp; try with_reducible rfl
 refine tke 38 (v := ?v38_56) ?hy38_56 (by assumption) ?rest38_56
 case hy38_56 => rintro wq ⟨qT, qC, qB, qR⟩; have z22 := qT.out.r.cells.1; have zb1 := qT.out.r.bus.cells.2.1; have zw := qT.out.r.bus.disk.c1; rw [HVW.out] at zw; have z24 := qT.out.r.cells.2.2; have zc := qT.out.r.loadCpu; have zk := load_cpu qC.out HOK.out.size; clear qT qC qB qR; simp only [lA, lB, lC]; go_simp; try with_reducible rfl
 refine tke 39 (v := ?v39_57) ?hy39_57 (by assumption) ?rest39_57
 case hy39_57 => rintro wq ⟨qT, qC, qB, qR⟩; have z22 := qT.out.r.cells.1; have zb1 := qT.out.r.bus.cells.2.1; have zw := qT.out.r.bus.disk.c1; rw [HVW.out] at zw; have z24 := qT.out.r.cells.2.2; have zc := qT.out.r.loadCpu; have zk := load_cpu qC.out HOK.out.size; clear qT qC qB qR; simp only [lA, lB, lC]; go_simp; try with_reducible rfl
 refine tke 40 (v := ?v40_58) ?hy40_58 (by assumption) ?rest40_58
 case hy40_58 => rintro wq ⟨qT, qC, qB, qR⟩; have z22 := qT.out.r.cells.1; have zb1 := qT.out.r.bus.cells.2.1; have zw := qT.out.r.bus.disk.c1; rw [HVW.out] at zw; have z24 := qT.out.r.cells.2.2; have zc := qT.out.r.loadCpu; have zk := load_cpu qC.out HOK.out.size; clear qT qC qB qR; simp only [lA, lB, lC]; go_simp; try with_reducible rfl
 refine tke 41 (v := ?v41_59) ?hy41_59 (by assumption) ?rest41_59
 case hy41_59 => rintro wq ⟨qT, qC, qB, qR⟩; have z22 := qT.out.r.cells.1; have zb1 := qT.out.r.bus.cells.2.1; have zw := qT.out.r.bus.disk.c1; rw [HVW.out] at zw; have z24 := qT.out.r.cells.2.2; have zc := qT.out.r.loadCpu; have zk := load_cpu qC.out HOK.out.size; clear qT qC qB qR; simp only [lA, lB, lC]; go_simp; try with_reducible rfl
 refine tke 42 (v := ?v42_60) ?hy42_60 (by assumption) ?rest42_60
 case hy42_60 => rintro wq ⟨qT, qC, qB, qR⟩; have z22 := qT.out.r.cells.1; have zb1 := qT.out.r.bus.cells.2.1; have zw := qT.out.r.bus.disk.c1; rw [HVW.out] at zw; have z24 := qT.out.r.cells.2.2; have zc := qT.out.r.loadCpu; have zk := load_cpu qC.out HOK.out.size; clear qT qC qB qR; simp only [lA, lB, lC]; go_simp; try with_reducible rfl
 refine tke 43 (v := ?v43_61) ?hy43_61 (by assumption) ?rest43_61
 case hy43_61 => rintro wq ⟨qT, qC, qB, qR⟩; have z22 := qT.out.r.cells.1; have zb1 := qT.out.r.bus.cells.2.1; have zw := qT.out.r.bus.disk.c1; rw [HVW.out] at zw; have z24 := qT.out.r.cells.2.2; have zc := qT.out.r.loadCpu; have zk := load_cpu qC.out HOK.out.size; clear qT qC qB qR; simp only [lA, lB, lC]; go_simp; try with_reducible rfl
 refine tke 44 (v := ?v44_62) ?hy44_62 (by assumption) ?rest44_62
 case hy44_62 => rintro wq ⟨qT, qC, qB, qR⟩; have z22 := qT.out.r.cells.1; have zb1 := qT.out.r.bus.cells.2.1; have zw := qT.out.r.bus.disk.c1; rw [HVW.out] at zw; have z24 := qT.out.r.cells.2.2; have zc := qT.out.r.loadCpu; have zk := load_cpu qC.out HOK.out.size; clear qT qC qB qR; simp only [lA, lB, lC]; go_simp; try with_reducible rfl
 refine tke 45 (v := ?v45_63) ?hy45_63 (by assumption) ?rest45_63
 case hy45_63 => rintro wq ⟨qT, qC, qB, qR⟩; have z22 := qT.out.r.cells.1; have zb1 := qT.out.r.bus.cells.2.1; have zw := qT.out.r.bus.disk.c1; rw [HVW.out] at zw; have z24 := qT.out.r.cells.2.2; have zc := qT.out.r.loadCpu; have zk := load_cpu qC.out HOK.out.size; clear qT qC qB qR; simp only [lA, lB, lC]; go_simp; try with_reducible rfl
 refine tke 46 (v := ?v46_64) ?hy46_64 (by assumption) ?rest46_64
 case hy46_64 => rintro wq ⟨qT, qC, qB, qR⟩; have z22 := qT.out.r.cells.1; have zb1 := qT.out.r.bus.cells.2.1; have zw := qT.out.r.bus.disk.c1; rw [HVW.out] at zw; have z24 := qT.out.r.cells.2.2; have zc := qT.out.r.loadCpu; have zk := load_cpu qC.out HOK.out.size; clear qT qC qB qR; simp only [lA, lB, lC]; go_simp; try with_reducible rfl
 clear hHeld4
 refine wpAnyH_ready (rs := [33]) (by kernel_rfl) (by simp) ?_
 refine (AllReadyH.cons (o := _) rfl (fun K hK => ?_) AllReadyH.nil)
 try simp only [lA, lB, lC]
 go_simp
 go_at_call 28
 refine (mDisk_any NT.out.p).mono ?_
 rintro e wz ⟨rfl, rfl⟩
 refine hK.out _ _ ⟨NT, NC, NB, NR⟩ (fun _ => ?_)
 try simp only [lA, lB, lC]
 refine wpAnyH_ready (rs := [34]) (by kernel_rfl) (by simp) ?_
 refine (AllReadyH.cons (o := _) rfl (fun K hK => ?_) AllReadyH.nil)
 try simp only [lA, lB, lC]
 go_simp
 go_at_call 30
 refine (NT.out.writesP).mono ?_
 rintro e wh ⟨qa, qc, rfl, hb⟩
 have OT := hid (NT.out.step hb)
 have OC := hid (NC.out.step hb)
 have OB := hid (NB.out.trans (hb.mono NB.out.size))
 have OR := hid (NR.out.below (B := 0) hb)
 clear hb NT NC NB NR
 refine hK.out _ _ ⟨OT, OC, OB, OR⟩ (fun _ => ?_)
 try simp only [lA, lB, lC]
 have hHeld5 : ((fun w' => Hid (MB w0 w' b1 m v b2 g u x x ⟨cs, cp, gone, st⟩ ⟨cs, cr, st⟩ hist) ∧ Hid (Blk w' gc cs 50) ∧ Hid (Below w.heap.size w w') ∧ Hid (BytesRow w' wf.heap.size qv (imgL x.sec x.N))) wh) := ⟨OT, OC, OB, OR⟩
 refine tke 35 (v := ?v35_65) ?hy35_65 (by assumption) ?rest35_65
 case hy35_65 => rintro wq ⟨qT, qC, qB, qR⟩; clear qT qC qB qR; go_simp; try with_reducible rfl
 refine tke 47 (v := ?v47_66) ?hy47_66 (by assumption) ?rest47_66
 case hy47_66 => rintro wq ⟨qT, qC, qB, qR⟩; clear qT qC qB qR; go_simp; try with_reducible rfl
 refine tke 48 (v := ?v48_67) ?hy48_67 (by assumption) ?rest48_67
 case hy48_67 => rintro wq ⟨qT, qC, qB, qR⟩; clear qT qC qB qR; go_simp; try with_reducible rfl
 refine tke 49 (v := ?v49_68) ?hy49_68 (by assumption) ?rest49_68
 case hy49_68 => rintro wq ⟨qT, qC, qB, qR⟩; clear qT qC qB qR; go_simp; try with_reducible rfl
 refine wpAnyH_done (by kernel_rfl) ?_ _
 clear hHeld5
 go_wp2_with fail
 go_ret
 exact ⟨rfl, OB.out⟩
set_option maxRecDepth 100000 in
theorem memory_any (T : MB w0 w b1 m v b2 g u x x ⟨cs, cp, gone, st⟩ ⟨cs, cr, st⟩ hist) :
 Calls Tryz.prog 8 #[.pointer (some ⟨m, 0, none⟩), .pointer (some ⟨g, 0, none⟩)] w fun e w' => e = .returned (.bool true) ∧ w = w' := by
 have T0 := hid T
 have c22 := T.r.cells.1
 clear T
 go_enter Tryz.func8, Tryz.ntmps8
 obtain ⟨K, hK⟩ : ∃ K : Nat, K = 262144 := ⟨_, rfl⟩
 have HK := hid hK
 have hC : (1048576 : Int) = 4 * (K : Int) := by omega
 generalize (1048576 : Int) = C at *
 have HC := hid hC
 clear hK hC
 go_wp2_with fail
 go_loopw [5, 6, 7, 8, 9] (fun a _ _ _ _ wr => ∃ k : Nat, k ≤ K ∧ a = .int .u32 (4 * (k : Int)) ∧ w = wr) (fun a _ _ _ _ _ => 4 * K - (intOf a).toNat)
 case atStart => exact ⟨0, Nat.zero_le _, rfl, rfl⟩
 case round =>
  obtain ⟨k, hk, rfl, rfl⟩ := hrel
  by_cases hlt : k < K
  ·have t1 : decide (4 * (k : Int) < C) = true := decide_eq_true (by have := HC.out; omega)
   have hk2 := HK.out
   have n0 : 0 ≤ 4 * (k : Int) := by omega
   have n1 : 4 * (k : Int) < 4294967296 := by omega
   have hkw : (4 * (k : Int) + 4) % 4294967296 = 4 * (k : Int) + 4 := by omega
   have hkv : IntKind.u32.wrap (4 * (k : Int) + 4) = 4 * (k : Int) + 4 := hkw
   have HWP := hid (T0.out.wordP (4 * (k : Int)) n0 n1)
   have HWR := hid (T0.out.wordR (4 * (k : Int)) n0 n1)
   generalize wrdV x (4 * (k : Int)) = wv at HWP HWR
   generalize wrdOk (4 * (k : Int)) = wk at HWP HWR
   clear hk2
   go_wp2_with (first | (go_at_call 22; refine HWP.out.mono ?_; rintro e w1 ⟨rfl, rfl⟩) | (go_at_call 23; refine HWR.out.mono ?_; rintro e w1 ⟨rfl, rfl⟩))
   go_roundw
   case rel => exact ⟨k + 1, by omega, by simp; omega, by first | rfl | trivial⟩
   case measure => simp [intOf]; omega
  ·obtain rfl : k = K := by omega
   have t1 : decide (4 * (k : Int) < C) = false := decide_eq_false (by have := HC.out; omega)
   go_wp2_with fail
   go_ret
   first | exact ⟨rfl, rfl⟩ | exact ⟨rfl, trivial⟩
end
end Go.Proofs.YtgcknekhimpfkaaGreatDoor
namespace Go.Proofs.YtgcknekhimpfkaaGreatDoor
open Go Go.RowKit Go.Lib Go.Proofs.YtgcknekhimpfkaaGreatDoor.Pl
set_option linter.unusedVariables false
set_option linter.unusedSimpArgs false
theorem start_inv2 {W : World} {cs : List Value} (h : Gen.GoodAll W [.slice 4 [.int .u32], .int .u32, .int .i64] cs) :
 ∃ (A : Option Addr) (n c : Nat) (ent s : Int) (f : Nat → Int), cs.toArray = #[.slice A n c, .int .u32 ent, .int .i64 s] ∧ n ≤ 35184372089000 ∧ 0 ≤ ent ∧ ent < 4294967296 ∧ RdI .u32 W A n f ∧ (∀ i, 0 ≤ f i ∧ f i < 4294967296) := by
 obtain ⟨v0, h0, g0⟩ := h.at_ (j := 0) rfl
 obtain ⟨A, n, c, V, rfl, hl, hm, hb, hr⟩ := g0.slice_inv
 obtain ⟨f, hf1, hf2, hf3⟩ := Gen.rows_int hr
 obtain ⟨ent, h1, w1⟩ := h.int 1 rfl
 obtain ⟨s, h2, w2⟩ := h.int 2 rfl
 have b1 := bounds_u32 w1
 have hlen := h.1
 unfold reachBytes at hb
 refine ⟨A, n, c, ent, s, f, ?_, by omega, by omega, by omega, fun hn => ?_, fun i => ?_⟩
 ·match cs, hlen, h0, h1, h2 with
  | [a, b, d], _, h0, h1, h2 =>
   simp only [lE, lF, Option.some.injEq] at h0 h1 h2
   rw [h0, h1, h2]
 ·obtain ⟨b, off, h3, h4, h5⟩ := hf1 (by omega)
  exact ⟨b, off, h3, h4, fun i hi => h5 i (by omega)⟩
 ·rcases Nat.lt_or_ge i c with g | g
  ·have := bounds_u32 (hf2 i g); omega
  ·rw [hf3 i g]; decide
/-- One step of a script, as it lies. -/
def StpAt (w : World) (b o : Nat) (kind N : Int) (s : ByteArray) : Prop :=
 s.size ≤ 140737488351232 ∧ w.cell? ⟨b, o, none⟩ = some (.int .i64 kind) ∧ w.cell? ⟨b, o + 1, none⟩ = some (.int .i64 N) ∧ w.cell? ⟨b, o + 2, none⟩ = some (.string s)
def StpsAt (w : World) (A : Option Addr) (n : Nat) : Prop := 0 < n → ∃ b off, A = some ⟨b, off, none⟩ ∧ b < w.heap.size ∧ ∀ k, k < n → ∃ kind N s, StpAt w b (off + k * 3) kind N s
theorem StpAt.below {w w' : World} {b o : Nat} {kind N : Int} {s : ByteArray} (h : StpAt w b o kind N s) (hb : Below w.heap.size w w') (hl : b < w.heap.size) : StpAt w' b o kind N s :=
 ⟨h.1, (hb.cell (p := ⟨b, o, none⟩) hl).trans h.2.1, (hb.cell (p := ⟨b, o + 1, none⟩) hl).trans h.2.2.1, (hb.cell (p := ⟨b, o + 2, none⟩) hl).trans h.2.2.2⟩
theorem stps_of {W : World} {A : Option Addr} {len cap : Nat} {V : Nat → Nat → Value} (hl : len ≤ cap) (h : Gen.Rows_ W A cap [.int .i64, .int .i64, .str] V) : StpsAt W A len := fun h0 => by
 obtain ⟨b, off, hA, hlt, hc⟩ := h.1 (by omega) (by simp)
 refine ⟨b, off, hA, hlt, fun k hk => ?_⟩
 obtain ⟨kind, e0, g0⟩ := (h.2 k 0 _ (by omega) rfl).int_inv
 obtain ⟨N, e1, g1⟩ := (h.2 k 1 _ (by omega) rfl).int_inv
 obtain ⟨s, e2, g2⟩ := (h.2 k 2 _ (by omega) rfl).str_inv
 unfold reachBytes at g2
 refine ⟨kind, N, s, by omega, ?_, ?_, ?_⟩
 ·rw [← e0]; exact hc k 0 (by omega) (by simp)
 ·rw [← e1]; exact hc k 1 (by omega) (by simp)
 ·rw [← e2]; exact hc k 2 (by omega) (by simp)
set_option maxRecDepth 100000 in
theorem mruns_bad (A : Option Addr) (n c : Nat) (ent s : Int) (w : World) (hT : Tab w) (h0 : 0 ≤ ent) (h1 : ent < 4294967296) (hn : n ≤ 35184372089000) (hb : ¬ mgood n ent) (f : Nat → Int) (hr : RdI .u32 w A n f) (A2 : Option Addr) (no c2 : Nat) :
 Calls Tryz.prog 3 #[.agg #[.slice A n c, .int .u32 ent, .int .i64 s], .slice A2 no c2] w fun e w' => e = .returned (.bool true) ∧ Below w.heap.size w w' := by
 have HT := hid hT
 have HMD := hid (fun (W : World) (hW : Below w.heap.size w W) => made_bad A n c ent s W h0 h1 hn hb f (RdI.keep hr hW))
 have hBox : Below w.heap.size w (w.alloc (.cells #[.slice A n c, .int .u32 ent, .int .i64 s] 25)) := (Below.refl _ _).alloc (Nat.le_refl _) _
 have HBX := hid hBox
 have KBX := hid (Blk.new w #[.slice A n c, .int .u32 ent, .int .i64 s] 25)
 clear hBox hr hT hb
 go_enter Tryz.func3, Tryz.ntmps3
 go_upto_region 2 with (go_at_call 4; refine (mshown_any _ (HT.out.below ((Below.refl _ _).alloc (Nat.le_refl _) _) HT.out.lt)).mono ?_; rintro e w1 ⟨rfl, hb1⟩; have HB1 := hid hb1; clear hb1)
 have HW1 := hid (HBX.out.trans (HB1.out.mono HBX.out.size))
 have K1 := KBX.out.step HB1.out
 have e0 := K1.cell 0
 have e1 := K1.cell 1
 have e2 := K1.cell 2
 simp only [lD, lE, lF] at e0 e1 e2
 clear K1 KBX HBX HB1
 go_wp2_with (go_at_call 5; refine (HMD.out _ HW1.out).mono ?_; rintro e w2 ⟨rfl, hb2⟩; have HB2 := hid (HW1.out.trans (hb2.mono HW1.out.size)); clear hb2)
 go_ret
 exact ⟨rfl, HB2.out⟩
set_option maxRecDepth 100000 in
theorem mruns_yes (A : Option Addr) (n c : Nat) (ent s : Int) (w : World) (hT : Tab w) (h0 : 0 ≤ ent) (hb : mgood n ent) (f : Nat → Int) (hf : ∀ i, 0 ≤ f i ∧ f i < 4294967296) (hr : RdI .u32 w A n f) (A2 : Option Addr) (no c2 : Nat) (hno : no ≤ 1000000000000000) (ho : StpsAt w A2 no) :
 Calls Tryz.prog 3 #[.agg #[.slice A n c, .int .u32 ent, .int .i64 s], .slice A2 no c2] w fun e w' => e = .returned (.bool true) ∧ Below w.heap.size w w' := by
 have HT := hid hT
 have HO := hid ho
 have HMD := hid (fun (W : World) (hW : Below w.heap.size w W) => made_full A n c ent s W h0 hb f hf (RdI.keep hr hW))
 have hBox : Below w.heap.size w (w.alloc (.cells #[.slice A n c, .int .u32 ent, .int .i64 s] 25)) := (Below.refl _ _).alloc (Nat.le_refl _) _
 have HBX := hid hBox
 have KBX := hid (Blk.new w #[.slice A n c, .int .u32 ent, .int .i64 s] 25)
 clear hBox hr hT hb ho hf
 go_enter Tryz.func3, Tryz.ntmps3
 go_upto_region 2 with (go_at_call 4; refine (mshown_any _ (HT.out.below ((Below.refl _ _).alloc (Nat.le_refl _) _) HT.out.lt)).mono ?_; rintro e w1 ⟨rfl, hb1⟩; have HB1 := hid hb1; clear hb1)
 have HW1 := hid (HBX.out.trans (HB1.out.mono HBX.out.size))
 have K1 := KBX.out.step HB1.out
 have e0 := K1.cell 0
 have e1 := K1.cell 1
 have e2 := K1.cell 2
 simp only [lD, lE, lF] at e0 e1 e2
 clear K1 KBX HBX HB1
 have HT1 := hid (HT.out.below HW1.out HT.out.lt)
 go_upto_region 3 with (go_at_call 5; refine (HMD.out _ HW1.out).mono ?_; rintro e w2 ⟨b1, m, v, b2, g, u, rfl, T⟩; have H0 := hid (show ∃ x cs st, MS w1 w2 b1 m b2 g x cs st ∧ 0 ≤ st ∧ st ≤ 3000 * ((0 : Nat) : Int) from ⟨_, _, 0, ⟨v, u, _, _, _, _, .inl rfl, T⟩, by decide, by decide⟩); clear T)
 clear e0 e1 e2 HMD
 go_upto_block 0 with fail
 go_wp2_with fail
 go_loopw [10, 11, 12] (fun i _ _ wr => ∃ k : Nat, k ≤ no ∧ k ≤ 100 ∧ i = .int .i64 k ∧ Hid (∃ x cs st, MS w1 wr b1 m b2 g x cs st ∧ 0 ≤ st ∧ st ≤ 3000 * (k : Int))) (fun i _ _ _ => no - (intOf i).toNat)
 case atStart => exact ⟨0, Nat.zero_le _, Nat.zero_le _, rfl, H0⟩
 case round =>
  obtain ⟨k, hk, hk1, rfl, HX⟩ := hrel
  clear H0
  by_cases hlt : k < no ∧ k < 100
  ·have t1 : decide ((k : Int) < (no : Int)) = true := decide_eq_true (by omega)
   have t2 : decide ((k : Int) < 100) = true := decide_eq_true (by omega)
   have hkn : (k : Int) < (no : Int) := by omega
   have hk3 : (k : Int) < 100 := by omega
   obtain ⟨x, cs, st, SX, z0, z1⟩ := HX.out
   obtain ⟨v, u, hist, cp, cr, gone, hsc, T⟩ := SX.it
   obtain ⟨bA, off, hA, hbA, hcA⟩ := HO.out (by omega)
   obtain ⟨kind, N, s', hop⟩ := hcA k hlt.1
   have hop' := (hop.below HW1.out hbA).below T.below (Nat.lt_of_lt_of_le hbA HW1.out.size)
   obtain ⟨q4, c0, c1, c2'⟩ := hop'
   have HH := hid (does_any T hsc HT1.out z0 (by omega) kind N s' q4)
   have hz1 := hid z1
   subst hA
   clear hop hcA T SX HX q4 hsc z1
   unfold stepA at HH
   go_upto_region 11 with (go_at_call 6; refine HH.out.mono ?_; rintro e w4 hh; have HS := hid hh; obtain ⟨rfl, -⟩ := hh)
   clear c0 c1 c2' HH
   obtain ⟨-, x2, cs2, st2, SX2, y0, y1⟩ := HS.out
   obtain ⟨v2, u2, hist2, cp2, cr2, gone2, hsc2, T2⟩ := SX2.it
   have HSA := hid (stands_any T2)
   have HT2 := hid T2
   have HSC := hid hsc2
   have HY0 := hid y0
   have HY1 := hid y1
   clear SX2 T2 hsc2 y0 y1 HS
   go_wp2_with (go_at_call 7; refine HSA.out.mono ?_; rintro e w5 ⟨rfl, hb5⟩; have T5 := hid (HT2.out.step hb5); clear hb5)
   go_roundw
   case rel => exact ⟨k + 1, by omega, by omega, by go_num, hid ⟨x2, cs2, st2, ⟨v2, u2, hist2, cp2, cr2, gone2, HSC.out, T5.out⟩, by have := HY0.out; omega, by have := HY1.out; have := hz1.out; omega⟩⟩
   case measure => simp [intOf]; omega
  ·obtain ⟨x, cs, st, SX, z0, z1⟩ := HX.out
   obtain ⟨v, u, hist, cp, cr, gone, hsc, T⟩ := SX.it
   have HMM := hid (memory_any T)
   have HTB := hid (HW1.out.trans (T.below.mono HW1.out.size))
   clear T SX HX hsc z0 z1
   by_cases hl2 : k < no
   ·have t1 : decide ((k : Int) < (no : Int)) = true := decide_eq_true (by omega)
    have t2 : decide ((k : Int) < 100) = false := decide_eq_false (by omega)
    have hkn : (k : Int) < (no : Int) := by omega
    go_wp2_with (go_at_call 8; refine HMM.out.mono ?_; rintro e w5 ⟨rfl, rfl⟩)
    go_ret
    exact ⟨rfl, HTB.out⟩
   ·have t1 : decide ((k : Int) < (no : Int)) = false := decide_eq_false (by omega)
    go_wp2_with (go_at_call 8; refine HMM.out.mono ?_; rintro e w5 ⟨rfl, rfl⟩)
    go_ret
    exact ⟨rfl, HTB.out⟩
def machRunsAts : List Gen.AT := [.agg [.slice 4 [.int .u32], .int .u32, .int .i64], .one (.slice 32 [.int .i64, .int .i64, .str])]
theorem machRuns_args (W : World) (vs : List Value) (h : Gen.ArgsGood W machRunsAts vs) (hT : Tab W) :
 Calls Tryz.prog 3 vs.toArray W fun e W' => e = .returned (.bool true) ∧ Below W.heap.size W W' := by
 match vs, h with
 | [v0, v1], h =>
  obtain ⟨h0, h1, _⟩ := h
  obtain ⟨cs, rfl, g0⟩ := h0
  obtain ⟨A, n, c, ent, s, f, hc, hn, e0, e1, hr, hf⟩ := start_inv2 g0
  obtain ⟨A2, no, c2, V2, rfl, hl2, hm2, hb2, hr2⟩ := h1.slice_inv
  unfold reachBytes at hb2
  rw [hc]
  by_cases hb : mgood n ent
  ·exact mruns_yes A n c ent s W hT e0 hb f hf hr A2 no c2 (by omega) (stps_of hl2 hr2)
  ·exact mruns_bad A n c ent s W hT e0 e1 hn hb f hr A2 no c2
end Go.Proofs.YtgcknekhimpfkaaGreatDoor
