/- A machine, and the document's, made of words: carrellaw05.made. -/
import Derived.Test.YtgcknekhimpfkaaDoorMachM
import Derived.Test.YtgcknekhimpfkaaDoorMachT
import Derived.Deep.RegionLaw
import Derived.Lib.JoinLaws
import Derived.BigRegion
import Derived.Deep.Cut
import Derived.WalkSpells
namespace Go.Proofs.YtgcknekhimpfkaaDoor
open Go Go.RowKit Go.Lib Go.Proofs.YtgcknekhimpfkaaDoor.Pl
set_option linter.unusedVariables false
set_option linter.unusedSimpArgs false
theorem u32_zinfo : (Tryd.prog.info? 22).map (fun i => (i.zero, i.size, i.bytes)) = some (some (.int .u32 0), 1, 4) := by kernel_rfl
theorem mk_room (c : Nat) (hc : c ≤ 1000000) (w : World) : (Instr.makeSlice 24 (.int .i64 0) (.int .i64 (c : Int))).run Tryd.prog w = .ok (.slice (some ⟨w.heap.size, 0, none⟩) 0 c) (w.alloc (.cells (madeCells #[.int .u32 0] c) 22)) :=
  run_make_room 24 22 (.int .u32 0) 4 Tryd.underlying24 u32_zinfo rfl .i64 .i64 c (by omega) (by omega) w
theorem made_ownI (w : World) (c : Nat) : OwnI .u32 (w.alloc (.cells (madeCells #[.int .u32 0] c) 22)) w.heap.size c 22 (fun _ => 0) :=
  ⟨_, heap_alloc_new w _, size_madeCells _ _, fun i hi => made_u32 c i hi⟩
def secN (s : Int) : Nat := if 8 ≤ s ∧ s ≤ 64 then s.toNat else 8
theorem secN_bd (s : Int) : 8 ≤ secN s ∧ secN s ≤ 64 := by unfold secN; split <;> omega
def rstart (n c : Nat) (A : Option Addr) (ent s : Int) : Array Value := #[.slice A n c, .int .u32 ent, .int .i64 s]
/-- How many sectors. -/
theorem sec_ways (s : Int) : (decide (s < 8) = true ∧ s < 8 ∧ secN s = 8) ∨ (decide (s < 8) = false ∧ decide (64 < s) = true ∧ 64 < s ∧ secN s = 8) ∨ (decide (s < 8) = false ∧ decide (64 < s) = false ∧ 8 ≤ s ∧ s ≤ 64 ∧ (secN s : Int) = s) := by
  unfold secN
  by_cases h1 : s < 8
  · exact .inl ⟨decide_eq_true h1, h1, if_neg (by omega)⟩
  · by_cases h2 : 64 < s
    · exact .inr (.inl ⟨decide_eq_false h1, decide_eq_true h2, h2, if_neg (by omega)⟩)
    · exact .inr (.inr ⟨decide_eq_false h1, decide_eq_false h2, by omega, by omega, by rw [if_pos (by omega)]; omega⟩)
/-- Words behind none, where there is room. -/
theorem run_fill (w : World) (g n : Nat) (c : Nat) (A : Option Addr) (f : Nat → Int) (ty : TypeId) (hsrc : 0 < n → ∃ b off, A = some ⟨b, off, none⟩ ∧ ∀ i, i < n → w.cell? ⟨b, off + i, none⟩ = some (.int .u32 (f i))) (hth : ∀ j, j < n → (w.cell? ⟨g, j, none⟩).isSome = true ∧ w.frozen? ⟨g, j, none⟩ = false) :
    (Builtin.append_ #[24, 24] ty #[.slice (some ⟨g, 0, none⟩) 0 (n + 2), .slice A n c]).run Tryd.prog w = .ok (.slice (some ⟨g, 0, none⟩) n (n + 2)) (w.setCells g 0 (icells f n)) := by
  obtain ⟨i0, hi, hz0, hz1, hz2⟩ := u32_info
  rcases Nat.eq_zero_or_pos n with rfl | hn
  · have e : w.setCells g 0 (icells f 0) = w := rfl
    rw [e]
    cases A <;> simp [Builtin.append_, run_underlying Tryd.underlying24, sizeOf, typeInfo, hi, hz1, Builtin.lenOf, Builtin.firstCells, loadCells, loadCellsFrom, storeCells, Result.andThen]
  · obtain ⟨b, off, rfl, hc⟩ := hsrc hn
    have hadd : ∀ j, (⟨b, off, none⟩ : Addr).add j = ⟨b, off + j, none⟩ := fun j => by unfold Addr.add; split <;> simp_all
    have := run_append_room_cells (P := Tryd.prog) w 24 ty 22 i0 Tryd.underlying24 hi g 0 0 (n + 2) ⟨b, off, none⟩ n c (icells f n) (by rw [icells_length, hz1, Nat.mul_one]) (fun j u hj => by
      have hl : j < n := by have := (List.getElem?_eq_some_iff.1 hj).1; rwa [icells_length] at this
      rw [hadd, hc j hl, ← hj, icells_get f n j hl]) (icells_one f n) (by omega) (fun j hj => by
      rw [icells_length] at hj
      simpa using (hth j hj).1) (fun j hj => by
      rw [icells_length] at hj
      simpa using (hth j hj).2)
    simpa using this
theorem step_fill {ops : Array Oper} {o : Oper} {a : Act} {w : World} {K : Act → World → Prop} {Q : Exit → Act → World → Prop} {E : Prop}
    (hg : o.guard = none) (s x : Operand) (hop : o.op = Op.call { callee := Callee.builtin Builtin.append, args := #[s, x], argTypes := #[24, 24] }) (g n c : Nat) (A : Option Addr) (f : Nat → Int)
    (hs : a.eval s = .slice (some ⟨g, 0, none⟩) 0 (n + 2)) (hx : a.eval x = .slice A n c)
    (hsrc : 0 < n → ∃ b off, A = some ⟨b, off, none⟩ ∧ ∀ i, i < n → w.cell? ⟨b, off + i, none⟩ = some (.int .u32 (f i))) (hth : ∀ j, j < n → (w.cell? ⟨g, j, none⟩).isSome = true ∧ w.frozen? ⟨g, j, none⟩ = false)
    (hK : K (a.put o.dst (.slice (some ⟨g, 0, none⟩) n (n + 2))) (w.setCells g 0 (icells f n))) :
    if Region.wanted o (yielded ops a.tmps) = true then Oper.wp Tryd.prog o a w K Q else E := by
  have hw : Region.wanted o (yielded ops a.tmps) = true := by simp [Region.wanted, hg]
  rw [if_pos hw]
  have hrun := run_fill w g n c A f o.type hsrc hth
  unfold Oper.wp
  simp [execOp, hop, resolve, invoke, builtin, hs, hx, hrun, Result.andThen]
  exact hK
theorem own_fill (W : World) (g n : Nat) (f : Nat → Int) (h : W.heap[g]? = some (.cells (madeCells #[.int .u32 0] (n + 2)) 22 (0, 0))) : OwnI .u32 (W.setCells g 0 (icells f n)) g (n + 2) 22 (fun i => if i < n then f i else 0) :=
  rmem_made ⟨_, h, size_madeCells _ _, fun i hi => made_u32 (n + 2) i hi⟩ f n (by omega)
theorem fill_below {w W : World} {g : Nat} (h : Below w.heap.size w W) (hg : w.heap.size ≤ g) (us : List Value) : Below w.heap.size w (W.setCells g 0 us) :=
  h.trans ((Touch.setCells g us 0 W).below h.size (fun k hk => by rw [show k = g from by simpa using hk]; exact hg))
theorem RdI.congr {k : IntKind} {w : World} {A : Option Addr} {n : Nat} {f g : Nat → Int} (h : RdI k w A n f) (e : ∀ i, i < n → f i = g i) : RdI k w A n g := fun hn => by
  obtain ⟨b, off, h1, h2, h3⟩ := h hn
  exact ⟨b, off, h1, h2, fun i hi => by rw [h3 i hi, e i hi]⟩
theorem RdI.keep {k : IntKind} {w w' : World} {A : Option Addr} {n : Nat} {f : Nat → Int} (h : RdI k w A n f) (hb : Below w.heap.size w w') : RdI k w' A n f := fun hn => by
  obtain ⟨b, off, h1, h2, h3⟩ := h hn
  exact ⟨b, off, h1, Nat.lt_of_lt_of_le h2 hb.size, fun i hi => (hb.cell (p := ⟨b, off + i, none⟩) h2).trans (h3 i hi)⟩
/-- The machine stands while the words that were lent are spoilt. -/
structure Lent (w0 wr : World) (b m : Nat) (v : BV) (x : BS) (y : MC) (g n : Nat) : Prop where
  a : MachAt wr b m v x y
  below : Below w0.heap.size w0 wr
  lent : ∃ Z, Blk wr g Z 22 ∧ n ≤ Z.size
  gm : g ≠ m
  gb : g ∉ brow v
  lo : w0.heap.size ≤ g
theorem Lent.set {w0 wr : World} {b m : Nat} {v : BV} {x : BS} {y : MC} {g n : Nat} (L : Lent w0 wr b m v x y g n) (j : Nat) (u : Value) : Lent w0 (wr.setCell ⟨g, j, none⟩ u) b m v x y g n := by
  obtain ⟨Z, h1, h2⟩ := L.lent
  exact ⟨L.a.far g j u L.gm L.gb, L.below.setCell L.lo u, ⟨_, h1.set j u, by simpa using h2⟩, L.gm, L.gb, L.lo⟩
theorem Lent.cell {w0 wr : World} {b m : Nat} {v : BV} {x : BS} {y : MC} {g n : Nat} (L : Lent w0 wr b m v x y g n) (j : Nat) (hj : j < n) : (∃ u, wr.cell? ⟨g, j, none⟩ = some u) ∧ wr.frozen? ⟨g, j, none⟩ = false := by
  obtain ⟨Z, h1, h2⟩ := L.lent
  exact ⟨⟨Z[j]'(by omega), by rw [h1.cell j, Array.getElem?_eq_getElem (by omega)]⟩, h1.frozen j⟩
set_option maxRecDepth 100000 in
set_option maxHeartbeats 4000000 in
theorem made_yes (A : Option Addr) (n c : Nat) (ent s : Int) (w : World) (h0 : 0 ≤ ent) (hb : mgood n ent) (f : Nat → Int) (hf : ∀ i, 0 ≤ f i ∧ f i < 4294967296) (hr : RdI .u32 w A n f) :
    Calls Tryd.prog 14 #[.agg #[.slice A n c, .int .u32 ent, .int .i64 s]] w fun e w' => ∃ b m v r, e = .returned (.tuple #[.pointer (some ⟨m, 0, none⟩), .int .i64 0, .pointer (some ⟨r, 0, none⟩), .int .i64 0]) ∧ MachAt w' b m v ⟨wordsM f n, [], [], 0, 0, 0, 0, secN s, fun _ => nought, []⟩ ⟨mcpu0 ent, -1, false, 0⟩ ∧ Below w.heap.size w w' ∧ w.heap.size ≤ b := by
  obtain ⟨hn, h4, h5⟩ := hb
  have HG := Lib.hid (show mgood n ent from ⟨hn, h4, h5⟩)
  have HR := Lib.hid hr
  have HF := Lib.hid hf
  have hB0 : Below w.heap.size w (w.alloc (.cells (rstart n c A ent s) 45)) := (Below.refl _ _).alloc (Nat.le_refl _) _
  have K0 := Lib.hid (Blk.new w (rstart n c A ent s) 45)
  have HB0 := Lib.hid hB0
  obtain ⟨hs8, hs64⟩ := secN_bd s
  have hways := sec_ways s
  generalize hN : secN s = N at *
  clear hB0 hr hf h4 hN
  go_enter Tryd.func14, Tryd.ntmps14
  go_upto_region 2 with fail
  have HWY := Lib.hid hways
  clear hways
  generalize hW0 : w.alloc (.cells #[.slice A n c, .int .u32 ent, .int .i64 s] 45) = W0 at *
  obtain ⟨q, hq⟩ : ∃ q : Bool, (decide (s < 8) || decide (64 < s)) = q := ⟨_, rfl⟩
  have HQ := Lib.hid hq
  go_cut [24] from 19 to 25 (fun s24 wx => s24 = .bool q ∧ W0 = wx)
  case first =>
    by_cases h8 : s < 8
    · have t1 : decide (s < 8) = true := decide_eq_true h8
      have hq2 : q = true := by rw [← HQ.out, t1]; rfl
      subst hq2
      clear hq
      go_wp2_with fail
      go_meet
      exact ⟨rfl, rfl⟩
    · have t1 : decide (s < 8) = false := decide_eq_false h8
      have hq2 : q = decide (64 < s) := by rw [← HQ.out, t1]; rfl
      subst hq2
      clear hq
      go_wp2_with fail
      go_meet
      exact ⟨rfl, rfl⟩
  case rest =>
  obtain ⟨rfl, rfl⟩ := hcut
  clear hq
  go_upto_if 24 with fail
  go_cut [6] from 24 to 25 (fun s6 wx => s6 = .int .i64 (N : Int) ∧ W0 = wx)
  case first =>
    rcases HWY.out with ⟨t1, ta, tn⟩ | ⟨t1, t2, ta, tn⟩ | ⟨t1, t2, ta, tb, tn⟩
    · obtain rfl : N = 8 := tn
      obtain rfl : q = true := by rw [← HQ.out, t1]; rfl
      go_wp2_with fail
      go_meet
      exact ⟨rfl, rfl⟩
    · obtain rfl : N = 8 := tn
      obtain rfl : q = true := by rw [← HQ.out, t1, t2]; rfl
      go_wp2_with fail
      go_meet
      exact ⟨rfl, rfl⟩
    · obtain rfl : s = (N : Int) := tn.symm
      obtain rfl : q = false := by rw [← HQ.out, t1, t2]; rfl
      go_wp2_with fail
      go_meet
      exact ⟨rfl, rfl⟩
  case rest =>
  obtain ⟨rfl, rfl⟩ := hcut
  subst hW0
  clear HWY
  go_upto_region 5 with (go_at_call 9; refine (new_yes _ _ (by omega) (by omega)).mono ?_; rintro e w1 ⟨d, sl, rfl, D, hb1⟩; have HD := Lib.hid D; have HB1 := Lib.hid hb1; clear D hb1)
  have hb3 := HB1.out.size
  go_upto_region 6 with (go_at_call 33; (refine (rnew_yes N _ hs8 (by omega)).mono ?_; rintro e w2 ⟨r, vf, rfl, -, hb2⟩; have HB2 := Lib.hid hb2; clear hb2))
  have hmk : ∀ W : World, (Instr.makeSlice 24 (.int .i64 0) (.int .i64 ((n : Int) + 2))).run Tryd.prog W = .ok (.slice (some ⟨W.heap.size, 0, none⟩) 0 (n + 2)) (W.alloc (.cells (madeCells #[.int .u32 0] (n + 2)) 22)) := fun W => mk_room (n + 2) (by omega) W
  have HW2 := Lib.hid (HB0.out.trans ((HB1.out.trans (HB2.out.mono HB1.out.size)).mono HB0.out.size))
  have KE := (K0.out.step HB1.out).step HB2.out
  have ke0 := KE.cell 0
  have ke1 := KE.cell 1
  simp only [rstart, List.getElem?_toArray, List.getElem?_cons_zero, List.getElem?_cons_succ] at ke0 ke1
  have hn2 : IntKind.i64.wrap ((n : Int) + 2) = (n : Int) + 2 := IntWalk.i64_in _ (by omega)
  have hlt2 : w.heap.size < w2.heap.size := by have := HB2.out.size; simp only [World.size_alloc] at hb3; omega
  have HS2 := Lib.hid (show ∀ W : World, Below w2.heap.size w2 W → 0 < n → ∃ b off, A = some ⟨b, off, none⟩ ∧ ∀ i, i < n → W.cell? ⟨b, off + i, none⟩ = some (.int .u32 (f i)) from fun W hW hn0 => by
    obtain ⟨b, off, hA, hlt, hc⟩ := HR.out hn0
    exact ⟨b, off, hA, fun i hi => ((HW2.out.trans (hW.mono HW2.out.size)).cell (p := ⟨b, off + i, none⟩) hlt).trans (hc i hi)⟩)
  have HT2 := Lib.hid (show ∀ W : World, W.heap[w2.heap.size]? = some (.cells (madeCells #[.int .u32 0] (n + 2)) 22 (0, 0)) → ∀ j, j < n → (W.cell? ⟨w2.heap.size, j, none⟩).isSome = true ∧ W.frozen? ⟨w2.heap.size, j, none⟩ = false from fun W hW j hj => by
    have hO : OwnI .u32 W w2.heap.size (n + 2) 22 (fun _ => 0) := ⟨_, hW, size_madeCells _ _, fun i hi => made_u32 (n + 2) i hi⟩
    exact ⟨by rw [hO.cell (by omega)]; rfl, hO.frozen j⟩)
  go_cut [11] from 35 to 43 (fun s11 wx => s11 = .slice (some ⟨w2.heap.size, 0, none⟩) n (n + 2) ∧ Hid (Below w2.heap.size w2 wx) ∧ Hid (OwnI .u32 wx w2.heap.size (n + 2) 22 (fun i => if i < n then f i else 0)))
  case first =>
    go_region_law ((refine step_fill (by rfl) _ _ (by rfl) _ n c A f (by rfl) (by rfl) (HS2.out _ (by go_grown)) (HT2.out _ (heap_alloc_new _ _)) ?_))
    all_goals
      go_wp2_with fail
      go_meet
      refine ⟨rfl, Lib.hid ?_, Lib.hid ?_⟩
      · exact fill_below (by go_grown) (Nat.le_refl _) _
      · exact own_fill _ _ n f (heap_alloc_new _ _)
  case rest =>
  obtain ⟨rfl, HB3, HO3⟩ := hcut
  have KF := KE.step HB3.out
  have kf0 := KF.cell 0
  have kf1 := KF.cell 1
  simp only [rstart, List.getElem?_toArray, List.getElem?_cons_zero, List.getElem?_cons_succ] at kf0 kf1
  have HWC := Lib.hid (HW2.out.trans (HB3.out.mono HW2.out.size))
  have hls : (w.alloc (.cells #[.slice A n c, .int .u32 ent, .int .i64 s] 45)).heap.size = w.heap.size + 1 := by simp
  have HDC := Lib.hid ((HD.out.below HB2.out).below HB3.out)
  have hdl := HD.out.dlt
  have hsl := HD.out.slt
  have hb2s := HB2.out.size
  have hb3s := HB3.out.size
  have HNW := Lib.hid (mNew_yes (some ⟨w2.heap.size, 0, none⟩) n (n + 2) ent wc h0 HG.out f HF.out (RdI.congr (HO3.out.rd (n := n) (Nat.le_add_right n 2)) fun i hi => if_pos hi) HDC.out (by omega))
  clear HS2 HT2 hmk hn2 ke0 ke1 K0 KE HDC HD
  go_upto_region 8 with (go_at_call 10; refine HNW.out.mono ?_; rintro e w4 ⟨m, v, rfl, M, hb4, -, -, -, hm1, hm2⟩; have HM := Lib.hid M; have HB4 := Lib.hid hb4; have HM2 := Lib.hid hm2; clear M hb4 hm2)
  clear HNW
  have KG := KF.step HB4.out
  have kg0 := KG.cell 0
  have kg1 := KG.cell 1
  simp only [rstart, List.getElem?_toArray, List.getElem?_cons_zero, List.getElem?_cons_succ] at kg0 kg1
  have HW4 := Lib.hid (HWC.out.trans (HB4.out.mono HWC.out.size))
  have HNR := Lib.hid (rmNew_yes A n c ent w4 h0 HG.out f (RdI.keep HR.out HW4.out) r)
  clear KF kf0 kf1
  go_upto_region 9 with (go_at_call 34; refine HNR.out.mono ?_; rintro e w5 ⟨x, rfl, hb5⟩; have HB5 := Lib.hid hb5; clear hb5)
  clear HNR KG kg0 kg1
  have hgb : w2.heap.size ∉ brow v := fun hg => by
    rcases HM2.out _ hg with h | h
    · simp only [drow, List.mem_cons, Option.mem_toList, Value.ownBlock] at h
      rcases h with h | h | h
      · omega
      · omega
      · cases h
    · have := HO3.out.lt; omega
  have HL := Lib.hid (show Lent w w5 (w.heap.size + 1) m v ⟨wordsM f n, [], [], 0, 0, 0, 0, N, fun _ => nought, []⟩ ⟨mcpu0 ent, -1, false, 0⟩ w2.heap.size n from
    ⟨by rw [← hls]; exact HM.out.step HB5.out, HW4.out.trans (HB5.out.mono HW4.out.size), by
      obtain ⟨Z, h1, h2⟩ := ((HO3.out.below HB4.out HO3.out.lt).below HB5.out (Nat.lt_of_lt_of_le HO3.out.lt HB4.out.size))
      exact ⟨Z, h1, by omega⟩, by have := HO3.out.lt; omega, hgb, HW2.out.size⟩)
  clear HB5 HM HM2 HB4 HW4 HWC HO3 HB3 HB2 HB1 hdl hsl hb2s hb3s hm1 hb3 hls HB0 HR HF HG HQ
  generalize w2.heap.size = g at HL hgb ⊢
  go_wp2_with fail
  go_loopw [16] (fun i wr => ∃ k : Nat, k ≤ n ∧ i = .int .i64 k ∧ Hid (Lent w wr (w.heap.size + 1) m v ⟨wordsM f n, [], [], 0, 0, 0, 0, N, fun _ => nought, []⟩ ⟨mcpu0 ent, -1, false, 0⟩ g n)) (fun i _ => n - (intOf i).toNat)
  case atStart => exact ⟨0, Nat.zero_le _, rfl, HL⟩
  case round =>
    obtain ⟨k, hk, rfl, HX⟩ := hrel
    by_cases hlt : k < n
    · have hlt' : (k : Int) < (n : Int) := by omega
      obtain ⟨⟨u, hu⟩, hfz⟩ := HX.out.cell k hlt
      have HY := Lib.hid (HX.out.set k (.int .u32 2004318071))
      clear HX HL
      go_wp2_with fail
      go_roundw
      case rel => exact ⟨k + 1, by omega, by go_num, HY⟩
      case measure => simp [intOf]; omega
    · obtain rfl : k = n := by omega
      go_wp2_with fail
      have hres : True := trivial
      refine bodyPost_ret (v := .tuple #[.pointer (some ⟨m, 0, none⟩), .int .i64 0, .pointer (some ⟨x, 0, none⟩), .int .i64 0]) (by simp [results, Tryd.results14, go_sem]) rfl ⟨w.heap.size + 1, m, v, x, rfl, ?_, HX.out.below, by omega⟩
      exact HX.out.a
end Go.Proofs.YtgcknekhimpfkaaDoor
