/- A new machine; what is asked of it. -/
import Derived.Test.YtgcknekhimpfkaaGreatDoorMachG
set_option maxHeartbeats 1000000
namespace Go.Proofs.YtgcknekhimpfkaaGreatDoor
open Go Go.RowKit Go.Lib Go.Proofs.YtgcknekhimpfkaaGreatDoor.Pl
set_option linter.unusedVariables false
set_option linter.unusedSimpArgs false
attribute [local go_sem ↓] exec_load_cpu exec_store_cpu
section
variable {w : World} {base m : Nat} {v : BV} {x : BS} {y : MC}
theorem mSteps_any (M : MachAt w base m v x y)  : Calls Tryz.prog 24 #[.pointer (some ⟨m, 0, none⟩)] w fun e w' => e = .returned (.int .i64 y.st) ∧ w = w' := by
 have HM := hid M
 obtain ⟨c0, c23, c24, c25⟩ := M.cells
 have f23 := M.frozen 23
 clear M
 go_enter Tryz.func24, Tryz.ntmps24
 go_wp2_with (fail)
 go_ret
 exact ⟨rfl, rfl⟩
theorem mDisk_any (M : MachAt w base m v x y) : Calls Tryz.prog 28 #[.pointer (some ⟨m, 0, none⟩)] w fun e w' => e = .returned (.pointer (some ⟨v.d, 0, none⟩)) ∧ w = w' := by
 have HM := hid M
 obtain ⟨c0, c23, c24, c25⟩ := M.cells
 have f23 := M.frozen 23
 clear M
 go_enter Tryz.func28, Tryz.ntmps28
 go_wp2_with (go_at_call 48; refine (bdisk_any HM.out.bus).mono ?_; rintro e w1 ⟨rfl, rfl⟩)
 go_ret
 exact ⟨rfl, rfl⟩
theorem mOut_any (M : MachAt w base m v x y) : Calls Tryz.prog 25 #[.pointer (some ⟨m, 0, none⟩)] w fun e w' => e = .returned (.string (ofBs x.o)) ∧ w = w' := by
 have HM := hid M
 obtain ⟨c0, c23, c24, c25⟩ := M.cells
 have f23 := M.frozen 23
 clear M
 go_enter Tryz.func25, Tryz.ntmps25
 go_wp2_with (go_at_call 46; refine (bout_any HM.out.bus).mono ?_; rintro e w1 ⟨rfl, rfl⟩)
 go_ret
 exact ⟨rfl, rfl⟩
theorem mWord_any (M : MachAt w base m v x y) (a : Int) (h0 : 0 ≤ a) (h1 : a < 1048576) (h4 : a % 4 = 0) : Calls Tryz.prog 22 #[.pointer (some ⟨m, 0, none⟩), .int .u32 a] w fun e w' => e = .returned (.tuple #[.int .u32 (getV x.M a.toNat), .bool true]) ∧ w = w' := by
 have HM := hid M
 obtain ⟨c0, c23, c24, c25⟩ := M.cells
 have f23 := M.frozen 23
 clear M
 go_enter Tryz.func22, Tryz.ntmps22
 go_wp2_with (go_at_call 34; refine (bword_yes HM.out.bus a h0 h1 h4).mono ?_; rintro e w1 ⟨rfl, rfl⟩)
 go_ret2
 exact ⟨rfl, rfl⟩
theorem mTick_any (M : MachAt w base m v x y) (a : Int) (h0 : 0 ≤ a) (h1 : a < 4294967296) : Calls Tryz.prog 19 #[.pointer (some ⟨m, 0, none⟩), .int .u32 a] w fun e w' => e = .returned (.tuple #[]) ∧ MachAt w' base m v { x with tk := (x.tk + a) % 4294967296 } y ∧ MMoves w w' m v v := by
 have HM := hid M
 obtain ⟨c0, c23, c24, c25⟩ := M.cells
 have f23 := M.frozen 23
 clear M
 go_enter Tryz.func19, Tryz.ntmps19
 go_wp2_with (go_at_call 44; refine (btick_any HM.out.bus a h0 h1).mono ?_; rintro e w1 ⟨rfl, B1, V1⟩)
 go_end0
 exact ⟨rfl, HM.out.moved B1 V1, .of V1⟩
theorem mFeed_any (M : MachAt w base m v x y) (s : ByteArray) (h : x.q.length + s.size ≤ 65536) : Calls Tryz.prog 17 #[.pointer (some ⟨m, 0, none⟩), .string s] w fun e w' => e = .returned (.int .i64 0) ∧ ∃ v', MachAt w' base m v' { x with q := x.q ++ s.data.toList } y ∧ MMoves w w' m v v' := by
 have HM := hid M
 obtain ⟨c0, c23, c24, c25⟩ := M.cells
 have f23 := M.frozen 23
 clear M
 go_enter Tryz.func17, Tryz.ntmps17
 go_wp2_with (go_at_call 43; refine (bfeed_yes HM.out.bus s h).mono ?_; rintro e w1 ⟨rfl, v1, B1, V1⟩)
 go_ret
 exact ⟨rfl, v1, HM.out.moved B1 V1, .of V1⟩
theorem mFeed_no (M : MachAt w base m v x y) (s : ByteArray) (h : 65536 < x.q.length + s.size) (hs : s.size ≤ 140737488351232) : Calls Tryz.prog 17 #[.pointer (some ⟨m, 0, none⟩), .string s] w fun e w' => e = .returned (.int .i64 40) ∧ w = w' := by
 have HM := hid M
 obtain ⟨c0, c23, c24, c25⟩ := M.cells
 have f23 := M.frozen 23
 clear M
 go_enter Tryz.func17, Tryz.ntmps17
 go_wp2_with (go_at_call 43; refine (bfeed_no HM.out.bus s h hs).mono ?_; rintro e w1 ⟨rfl, rfl⟩)
 go_ret
 exact ⟨rfl, rfl⟩
set_option maxRecDepth 100000 in
theorem mCutAt_any (M : MachAt w base m v x y) (a : Int) (h0 : 0 ≤ a) : Calls Tryz.prog 21 #[.pointer (some ⟨m, 0, none⟩), .int .i64 a] w fun e w' => e = .returned (.tuple #[]) ∧ MachAt w' base m v x { y with cut := a } ∧ MMoves w w' m v v := by
 have HM := hid M
 obtain ⟨c0, c23, c24, c25⟩ := M.cells
 have f23 := M.frozen 23
 have hlt : decide (a < -1) = false := decide_eq_false (by omega)
 clear M
 go_enter Tryz.func21, Tryz.ntmps21
 go_wp2_with (fail)
 go_end0
 exact ⟨rfl, HM.out.setCut a, MMoves.set _ _ _ _ _⟩
set_option maxRecDepth 100000 in
theorem mCpu_any (M : MachAt w base m v x y) : Calls Tryz.prog 12 #[.pointer (some ⟨m, 0, none⟩)] w fun e w' => e = .returned (.agg y.cs) ∧ Below w.heap.size w w' := by
 have hld := (M.step ((Below.refl _ _).alloc (Nat.le_refl _) (.cells zCpu 50))).loadCpu
 have hst := store_new (w := w) (Z := zCpu) (cs := y.cs) (t := 50) rfl M.ok.size M.ok.one
 have hres := loadVar_cpu (Blk.new w y.cs 50) M.ok.size
 simp only [zCpu] at hld hst
 clear M
 go_enter Tryz.func12, Tryz.ntmps12
 go_wp2_with fail
 refine bodyPost_ret (v := .agg y.cs) ?_ rfl ⟨rfl, (Below.refl _ _).alloc (Nat.le_refl _) _⟩
 simp [results, Tryz.results12, asAddr, hres]
def mgood (n : Nat) (ent : Int) : Prop := n ≤ 262144 ∧ ent % 4 = 0 ∧ ent < 1048576
def mcpu0 (ent : Int) : Array Value := #[.int .u32 0, .int .u32 0, .int .u32 0, .int .u32 0, .int .u32 0, .int .u32 0, .int .u32 0, .int .u32 0, .int .u32 0, .int .u32 0, .int .u32 0, .int .u32 0, .int .u32 0, .int .u32 0, .int .u32 0, .int .u32 0, .int .u32 0, .bool false, .bool false, .bool false, .bool false, .int .u32 ent]
theorem mcpu0_ok (ent : Int) (h0 : 0 ≤ ent) (h1 : ent < 4294967296) : CpuOk (mcpu0 ent) := by
 refine ⟨rfl, ?_, ?_, ⟨0, rfl, zb⟩, ⟨false, rfl⟩, ⟨false, rfl⟩, ⟨false, rfl⟩, ⟨false, rfl⟩, ⟨ent, rfl, h0, h1⟩⟩
 ·intro u hu
  simp only [mcpu0, List.mem_toArray, List.mem_cons, List.not_mem_nil, or_false] at hu
  rcases hu with rfl | rfl | rfl | rfl | rfl | rfl | rfl | rfl | rfl | rfl | rfl | rfl | rfl | rfl | rfl | rfl | rfl | rfl | rfl | rfl | rfl | rfl <;> rfl
 ·intro k hk
  refine ⟨0, ?_, zb⟩
  match k, hk with
  | 0, _ => rfl
  | 1, _ => rfl
  | 2, _ => rfl
  | 3, _ => rfl
  | 4, _ => rfl
  | 5, _ => rfl
  | 6, _ => rfl
  | 7, _ => rfl
  | 8, _ => rfl
  | 9, _ => rfl
  | 10, _ => rfl
  | 11, _ => rfl
  | 12, _ => rfl
  | 13, _ => rfl
  | 14, _ => rfl
  | 15, _ => rfl
  | k + 16, h => omega
def mrow0 (b : Nat) (ent : Int) : Array Value := #[.pointer (some ⟨b, 0, none⟩), .int .u32 0, .int .u32 0, .int .u32 0, .int .u32 0, .int .u32 0, .int .u32 0, .int .u32 0, .int .u32 0, .int .u32 0, .int .u32 0, .int .u32 0, .int .u32 0, .int .u32 0, .int .u32 0, .int .u32 0, .int .u32 0, .int .u32 0, .bool false, .bool false, .bool false, .bool false, .int .u32 ent, .int .i64 (-1), .bool false, .int .i64 0]
theorem mrow0_is (b : Nat) (ent : Int) : MRow (mrow0 b ent) b ⟨mcpu0 ent, -1, false, 0⟩ := by
 refine ⟨rfl, rfl, ?_, rfl, rfl, rfl⟩
 intro k hk
 match k, hk with
 | 0, _ => rfl
 | 1, _ => rfl
 | 2, _ => rfl
 | 3, _ => rfl
 | 4, _ => rfl
 | 5, _ => rfl
 | 6, _ => rfl
 | 7, _ => rfl
 | 8, _ => rfl
 | 9, _ => rfl
 | 10, _ => rfl
 | 11, _ => rfl
 | 12, _ => rfl
 | 13, _ => rfl
 | 14, _ => rfl
 | 15, _ => rfl
 | 16, _ => rfl
 | 17, _ => rfl
 | 18, _ => rfl
 | 19, _ => rfl
 | 20, _ => rfl
 | 21, _ => rfl
 | k + 22, h => omega
set_option maxRecDepth 100000 in
theorem mNew_bad (A : Option Addr) (n c : Nat) (ent : Int) (w : World) (d : Addr) (hn : n ≤ 9223372036854775807) (h0 : 0 ≤ ent) (h1 : ent < 4294967296) (hb : ¬ mgood n ent) : Calls Tryz.prog 10 #[.agg #[.slice A n c, .int .u32 ent], .pointer (some d)] w fun e w' => e = .returned (.tuple #[.pointer none, .int .i64 50]) ∧ Below w.heap.size w w' := by
 have hb2 : 262144 < n ∨ (¬ 262144 < n ∧ ¬ ent % 4 = 0) ∨ (¬ 262144 < n ∧ ent % 4 = 0 ∧ 1048576 ≤ ent) := by unfold mgood at hb; omega
 clear hb
 rcases hb2 with hb | ⟨ha, hb⟩ | ⟨ha, hb, hc⟩
 ·have t1 : decide ((262144 : Int) < n) = true := decide_eq_true (by omega)
  go_enter Tryz.func10, Tryz.ntmps10
  go_wp2_with fail
  go_ret2
  exact ⟨rfl, (Below.refl _ _).alloc (Nat.le_refl _) _⟩
 ·have t1 : decide ((262144 : Int) < n) = false := decide_eq_false (by omega)
  have t2 : (ent % 4 != 0) = true := by simpa using hb
  go_enter Tryz.func10, Tryz.ntmps10
  go_wp2_with fail
  go_ret2
  exact ⟨rfl, (Below.refl _ _).alloc (Nat.le_refl _) _⟩
 ·have t1 : decide ((262144 : Int) < n) = false := decide_eq_false (by omega)
  have t2 : (ent % 4 != 0) = false := by simpa using hb
  have t3 : decide ((1048576 : Int) ≤ ent) = true := decide_eq_true hc
  go_enter Tryz.func10, Tryz.ntmps10
  go_wp2_with fail
  go_ret2
  exact ⟨rfl, (Below.refl _ _).alloc (Nat.le_refl _) _⟩
set_option maxRecDepth 100000 in
theorem mNew_yes (A : Option Addr) (n c : Nat) (ent : Int) (w : World) (h0 : 0 ≤ ent) (hb : mgood n ent) (f : Nat → Int) (hf : ∀ i, 0 ≤ f i ∧ f i < 4294967296) (hr : RdI .u32 w A n f) {base d s N : Nat} {vw : Value} {sec : Nat → ByteArray} {ws : List (Nat × ByteArray)} (D : DiskAt w base d s vw N sec ws) (hbase : base ≤ w.heap.size) :
 Calls Tryz.prog 10 #[.agg #[.slice A n c, .int .u32 ent], .pointer (some ⟨d, 0, none⟩)] w fun e w' => ∃ m v, e = .returned (.tuple #[.pointer (some ⟨m, 0, none⟩), .int .i64 0]) ∧ MachAt w' base m v ⟨wordsM f n, [], [], 0, 0, 0, 0, N, sec, ws⟩ ⟨mcpu0 ent, -1, false, 0⟩ ∧ Below w.heap.size w w' ∧ v.d = d ∧ v.s = s ∧ v.vw = vw ∧ w.heap.size ≤ m ∧ (∀ g ∈ brow v, g ∈ drow d s vw ∨ w.heap.size ≤ g) := by
 obtain ⟨hn, h4, h5⟩ := hb
 have t1 : decide ((262144 : Int) < n) = false := decide_eq_false (by omega)
 have t2 : (ent % 4 != 0) = false := by simpa using h4
 have t3 : decide ((1048576 : Int) ≤ ent) = false := decide_eq_false (by omega)
 have hB : Below w.heap.size w (w.alloc (.cells #[.slice A n c, .int .u32 ent] 44)) := (Below.refl _ _).alloc (Nat.le_refl _) _
 have HNW := hid (bnew_yes A n c f (w.alloc (.cells #[.slice A n c, .int .u32 ent] 44)) base d s vw N sec ws hn hf (fun hn0 => by obtain ⟨b, off, hA, hlt, hc⟩ := hr hn0; exact ⟨b, off, hA, Nat.lt_of_lt_of_le hlt hB.size, fun i hi => (hB.cell (p := ⟨b, off + i, none⟩) hlt).trans (hc i hi)⟩) (D.below hB))
 have HD := hid D
 have HB := hid hB
 have HH := hid hbase
 clear D hr hf hB hbase
 go_enter Tryz.func10, Tryz.ntmps10
 go_upto_region 6 with (go_at_call 31; refine HNW.out.mono ?_; rintro e w1 ⟨b, mm, rfl, B, hb1, hb2, hb3⟩; have KE := ((Blk.new w #[.slice A n c, .int .u32 ent] 44).step hb1).cell 1; simp only [List.getElem?_toArray, List.getElem?_cons_zero, List.getElem?_cons_succ] at KE; have HBU := hid B; have HB1 := hid hb1; have HB2 := hid hb2; have HB3 := hid hb3; clear B hb1 hb2 hb3)
 clear HNW
 go_wp2_with fail
 go_ret2
 have hB4 : Below w1.heap.size w1 (w1.alloc (.cells (mrow0 b ent) 89)) := (Below.refl _ _).alloc (Nat.le_refl _) _
 have hbs : w.heap.size + 1 ≤ w1.heap.size := by have := HB1.out.size; simpa using this
 have hww := HB.out.trans (HB1.out.mono HB.out.size)
 have hb2 := HB2.out
 have hb3 := HB3.out
 simp only [World.size_alloc] at hb2 hb3
 refine ⟨w1.heap.size, _, rfl, ⟨⟨_, Blk.new w1 (mrow0 b ent) _, mrow0_is _ _⟩, mcpu0_ok ent h0 (by omega), HBU.out.below hB4, fun hm => ?_, Nat.le_trans HH.out (by omega)⟩, hww.trans (hB4.mono hww.size), rfl, rfl, rfl, by omega, fun g hg => ?_⟩
 ·exact absurd (HBU.out.lt _ hm).2 (Nat.lt_irrefl _)
 ·simp only [brow, List.mem_cons, List.mem_append, Option.mem_toList] at hg
  simp only [drow, List.mem_cons, Option.mem_toList]
  rcases hg with rfl | rfl | rfl | rfl | hg | hg | hg
  ·exact .inr (by omega)
  ·exact .inr (by omega)
  ·exact .inl (.inl rfl)
  ·exact .inl (.inr (.inl rfl))
  ·cases hg
  ·cases hg
  ·exact .inl (.inr (.inr hg))
end
end Go.Proofs.YtgcknekhimpfkaaGreatDoor
namespace Go.Proofs.YtgcknekhimpfkaaGreatDoor
open Go Go.RowKit Go.Lib Go.Proofs.YtgcknekhimpfkaaGreatDoor.Pl
set_option linter.unusedVariables false
set_option linter.unusedSimpArgs false
attribute [local go_sem ↓] exec_load_cpu exec_store_cpu exec_load_end exec_store_end
theorem mrun_as {w : World} {base m : Nat} {v : BV} {x : BS} {y : MC} (M : MachAt w base m v x y) (hT : Tab w) (hpos : 0 < base) (most : Int) (n : Nat) (hn : min (max most 0) 10000000 = (n : Int)) (s0 : 0 ≤ y.st) (s1 : y.st ≤ 9000000000000000000)
 {k t a dI : Int} {d : Nat} {cs : Array Value} {x' : BS} {g : Bool} (hZ : runM y.cut n y.cs x (lookV y.cut x.ws.length) 0 = ⟨k, t, a, d, cs, x', g⟩) (hd : (d : Int) = dI) :
 Calls Tryz.prog 11 #[.pointer (some ⟨m, 0, none⟩), .int .i64 most] w fun e w' => e = .returned (.agg (endA k t a dI)) ∧ ∃ v', MachAt w' base m v' x' { y with cs := cs, gone := g, st := y.st + dI } ∧ MMoves w w' m v v' := by
 refine (mrun_any M hT hpos most n hn s0 s1).mono ?_
 rintro e w' ⟨Z, hY, rfl, v', M', V'⟩
 subst hd
 rw [hZ] at hY
 subst hY
 exact ⟨rfl, v', M', V'⟩
def mexW (i : Nat) : Int := if i = 0 then 1073741831 else if i = 1 then 1074724864 else 0
theorem mexW_bd (i : Nat) : 0 ≤ mexW i ∧ mexW i < 4294967296 := by unfold mexW; split <;> (try split) <;> omega
def mexX : BS := ⟨wordsM mexW 2, [], [], 0, 0, 0, 0, 8, fun _ => nought, []⟩
def mexZ : MRes := runM (-1) 10 (mcpu0 0) mexX (lookV (-1) 0) 0
theorem mexZ_is : runM (-1) 10 (mcpu0 0) mexX (lookV (-1) 0) 0 = ⟨3, 0, 0, 2, mexZ.cs, mexZ.x, mexZ.gone⟩ ∧ mexZ.cs[0]? = some (.int .u32 7) ∧ mexZ.cs[21]? = some (.int .u32 4) := by
 have h1 : mexZ.k = 3 := by kernel_rfl
 have h2 : mexZ.t = 0 := by kernel_rfl
 have h3 : mexZ.a = 0 := by kernel_rfl
 have h4 : mexZ.did = 2 := by kernel_rfl
 have h5 : mexZ.cs[0]? = some (.int .u32 7) := by kernel_rfl
 have h6 : mexZ.cs[21]? = some (.int .u32 4) := by kernel_rfl
 refine ⟨?_, h5, h6⟩
 show mexZ = _
 have : mexZ = ⟨mexZ.k, mexZ.t, mexZ.a, mexZ.did, mexZ.cs, mexZ.x, mexZ.gone⟩ := rfl
 rw [h1, h2, h3, h4] at this
 exact this
theorem mex_rd (w : World) (t : TypeId) : RdI .u32 (w.alloc (.cells #[.int .u32 1073741831, .int .u32 1074724864] t)) (some ⟨w.heap.size, 0, none⟩) 2 mexW := fun _ => ⟨w.heap.size, 0, rfl, by simp, fun i hi => by
 rw [cell_of_row _ w.heap.size _ _ t (0, 0) (heap_alloc_new w _)]
 have : i = 0 ∨ i = 1 := by omega
 rcases this with rfl | rfl <;> rfl⟩
/-- A machine that was made since w0. -/
structure One (w0 w : World) (m : Nat) (v : BV) (x : BS) (y : MC) : Prop where
 mach : MachAt w w0.heap.size m v x y
 below : Below w0.heap.size w0 w
section
variable {w0 w w' : World} {m : Nat} {v v' : BV} {x x' : BS} {y y' : MC}
theorem One.op (O : One w0 w m v x y) (M : MachAt w' w0.heap.size m v' x' y') (h : MMoves w w' m v v') : One w0 w' m v' x' y' :=
 ⟨M, O.below.trans (h.t.below O.below.size (fun g hg => by
  rcases List.mem_cons.1 hg with rfl | hg
  ·exact O.mach.lo
  ·exact (O.mach.bus.lt g hg).1))⟩
theorem One.step (O : One w0 w m v x y) (h : Below w.heap.size w w') : One w0 w' m v x y := O.op (O.mach.step h) (MMoves.below h)
theorem One.run (O : One w0 w m v x y) (hT : Tab w0) (most : Int) (n : Nat) (hn : min (max most 0) 10000000 = (n : Int)) (s0 : 0 ≤ y.st) (s1 : y.st ≤ 9000000000000000000)
 {k t a dI : Int} {d : Nat} {cs : Array Value} {x' : BS} {g : Bool} (hZ : runM y.cut n y.cs x (lookV y.cut x.ws.length) 0 = ⟨k, t, a, d, cs, x', g⟩) (hd : (d : Int) = dI) :
 Calls Tryz.prog 11 #[.pointer (some ⟨m, 0, none⟩), .int .i64 most] w fun e w' => e = .returned (.agg (endA k t a dI)) ∧ ∃ v', One w0 w' m v' x' { y with cs := cs, gone := g, st := y.st + dI } ∧ MMoves w w' m v v' := by
 refine (mrun_as O.mach (hT.below O.below hT.lt) hT.lt most n hn s0 s1 hZ hd).mono ?_
 rintro e w' ⟨rfl, v', M, V⟩
 exact ⟨rfl, v', O.op M V, V⟩
theorem One.cpu (O : One w0 w m v x y) : Calls Tryz.prog 12 #[.pointer (some ⟨m, 0, none⟩)] w fun e w' => e = .returned (.agg y.cs) ∧ One w0 w' m v x y ∧ Below w.heap.size w w' :=
 (mCpu_any O.mach).mono fun e w' ⟨h1, h2⟩ => ⟨h1, O.step h2, h2⟩
theorem One.new {A : Option Addr} {n c : Nat} {ent : Int} (h0 : 0 ≤ ent) (hb : mgood n ent) {f : Nat → Int} (hf : ∀ i, 0 ≤ f i ∧ f i < 4294967296) (hr : RdI .u32 w A n f) {d s N : Nat} {vw : Value} {sec : Nat → ByteArray} {ws : List (Nat × ByteArray)} (D : DiskAt w w0.heap.size d s vw N sec ws) (hB : Below w0.heap.size w0 w) :
 Calls Tryz.prog 10 #[.agg #[.slice A n c, .int .u32 ent], .pointer (some ⟨d, 0, none⟩)] w fun e w' => ∃ m v, e = .returned (.tuple #[.pointer (some ⟨m, 0, none⟩), .int .i64 0]) ∧ One w0 w' m v ⟨wordsM f n, [], [], 0, 0, 0, 0, N, sec, ws⟩ ⟨mcpu0 ent, -1, false, 0⟩ ∧ Below w.heap.size w w' ∧ v.d = d ∧ v.s = s ∧ v.vw = vw ∧ w.heap.size ≤ m ∧ (∀ g ∈ brow v, g ∈ drow d s vw ∨ w.heap.size ≤ g) := by
 refine (mNew_yes A n c ent w h0 hb f hf hr D hB.size).mono ?_
 rintro e w' ⟨m, v, rfl, M, hb, h1, h2, h3, h4, h5⟩
 exact ⟨m, v, rfl, ⟨M, hB.trans (hb.mono hB.size)⟩, hb, h1, h2, h3, h4, h5⟩
end
set_option maxRecDepth 100000 in
theorem mshown_any (w : World) (hT : Tab w) : Calls Tryz.prog 4 #[] w fun e w' => e = .returned (.bool true) ∧ Below w.heap.size w w' := by
 have HT := hid hT
 clear hT
 go_enter Tryz.func4, Tryz.ntmps4
 go_upto_region 2 with (go_at_call 9; refine (new_yes 8 _ (by decide) (by decide)).mono ?_; rintro e w1 ⟨d, s, rfl, D, hb1⟩)
 have hb2 : Below w1.heap.size w1 (w1.alloc (.cells #[.int .u32 1073741831, .int .u32 1074724864] 23)) := (Below.refl _ _).alloc (Nat.le_refl _) _
 have HN := hid (One.new (A := some ⟨w1.heap.size, 0, none⟩) (c := 2) (ent := 0) (by decide) (show mgood 2 0 from ⟨by decide, by decide, by decide⟩) mexW_bd (mex_rd w1 23) (D.below hb2) (hb1.trans (hb2.mono hb1.size)))
 obtain ⟨hz, hc0, hc21⟩ := mexZ_is
 generalize mexZ.cs = cs at hz hc0 hc21
 generalize mexZ.x = xz at hz
 generalize mexZ.gone = gz at hz
 have HZ := hid hz
 clear hz D hb1 hb2
 go_upto_region 3 with (go_at_call 10; refine HN.out.mono ?_; rintro e w2 ⟨m, v, rfl, O, -⟩; have O1 := hid (show One w w2 m v mexX ⟨mcpu0 0, -1, false, 0⟩ from O); clear O)
 clear HN
 go_upto_region 6 with (go_at_call 11; refine (O1.out.run HT.out 10 10 rfl (by decide) (by decide) HZ.out (dI := 2) rfl).mono ?_; rintro e w3 ⟨rfl, v3, O, -⟩; have hn := new_end w3 3 0 0 2 #[.int .i64 0, .int .i64 0, .int .u32 0, .int .i64 0] rfl; have O2 := hid (O.step ((Below.refl _ _).alloc (Nat.le_refl _) (.cells (endA 3 0 0 2) 46))); clear O)
 have hcs : CpuOk cs := O2.out.mach.ok
 have HCS := hid hcs
 have kz := Blk.new w3 (endA 3 0 0 2) 46
 have KZ := hid kz
 clear hcs kz hn
 go_wp2_with (go_at_call 12; refine O2.out.cpu.mono ?_; rintro e w5 ⟨rfl, O, hb5⟩; have hs5 := store_new (w := w5) (Z := #[.int .u32 0, .int .u32 0, .int .u32 0, .int .u32 0, .int .u32 0, .int .u32 0, .int .u32 0, .int .u32 0, .int .u32 0, .int .u32 0, .int .u32 0, .int .u32 0, .int .u32 0, .int .u32 0, .int .u32 0, .int .u32 0, .int .u32 0, .bool false, .bool false, .bool false, .bool false, .int .u32 0]) (cs := cs) (t := 50) rfl HCS.out.size HCS.out.one; have k1 := (KZ.out.step hb5).old (.cells cs 50); have k2 := Blk.new w5 cs 50; have e0 := k1.cell 0; have e3 := k1.cell 3; have g0 := (k2.cell 0).trans hc0; have g21 := (k2.cell 21).trans hc21; simp only [endA, List.getElem?_toArray, List.getElem?_cons_zero, List.getElem?_cons_succ] at e0 e3; have O3 := hid (O.step ((Below.refl _ _).alloc (Nat.le_refl _) (.cells cs 50))); clear O hb5 k1 k2)
 go_ret
 exact ⟨rfl, O3.out.below⟩
end Go.Proofs.YtgcknekhimpfkaaGreatDoor
