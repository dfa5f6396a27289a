/- The walk of MachEnds. -/
import Derived.Test.YtgcknekhimpfkaaDoorMachO
import Derived.Test.YtgcknekhimpfkaaDoorMachL
import Derived.Deep.QuietTactic
import Derived.BigQuiet
namespace Go.Proofs.YtgcknekhimpfkaaDoor
open Go Go.RowKit Go.Lib Go.Proofs.YtgcknekhimpfkaaDoor.Pl
set_option linter.unusedVariables false
set_option linter.unusedSimpArgs false
attribute [local go_sem ↓] exec_load_cpu exec_store_cpu exec_load_end exec_store_end
theorem budget_lo (n : Int) (h : n ≤ 3000) (w : World) : Calls Tryd.prog 16 #[.int .i64 n] w fun e w' => e = .returned (.int .i64 n) ∧ w = w' := by
  have t : decide (3000 < n) = false := decide_eq_false (by omega)
  go_enter Tryd.func16, Tryd.ntmps16
  go_wp2_with fail
  go_ret
  exact ⟨rfl, rfl⟩
theorem budget_hi (n : Int) (h : 3000 < n) (w : World) : Calls Tryd.prog 16 #[.int .i64 n] w fun e w' => e = .returned (.int .i64 3000) ∧ w = w' := by
  have t : decide (3000 < n) = true := decide_eq_true h
  go_enter Tryd.func16, Tryd.ntmps16
  go_wp2_with fail
  go_ret
  exact ⟨rfl, rfl⟩
section
variable {w0 w w' : World} {b m : Nat} {v : BV} {x : BS} {y : MC}
theorem Own1.run0 (O : Own1 w0 w b m v x y) (hT : Tab w0) (most : Int) (n : Nat) (hn : min (max most 0) 10000000 = (n : Int)) (s0 : y.st = 0)
    {k t a dI : Int} {d : Nat} {cs : Array Value} {x' : BS} {g : Bool} (hZ : runM y.cut n y.cs x (lookV y.cut x.ws.length) 0 = ⟨k, t, a, d, cs, x', g⟩) (hd : (d : Int) = dI) :
    Calls Tryd.prog 11 #[.pointer (some ⟨m, 0, none⟩), .int .i64 most] w fun e w' => e = .returned (.agg (endA k t a dI)) ∧ ∃ v', Own1 w0 w' b m v' x' { y with cs := cs, gone := g, st := dI } ∧ MMoves w w' m v v' := by
  refine (O.run hT most n hn (by omega) (by omega) hZ hd).mono ?_
  rintro e w' ⟨rfl, v', M, V⟩
  rw [s0, Int.zero_add] at M
  exact ⟨rfl, v', M, V⟩
end
/-- What the law asks of an end. -/
structure SaysE (K T E dI kk : Int) (cs : Array Value) : Prop where
  k : K = 1 ∨ K = 2 ∨ K = 3 ∨ K = 4 ∨ K = 5 ∨ K = 6 ∨ K = 7
  d0 : 0 ≤ dI
  d1 : dI ≤ kk
  e1 : K = 1 → dI = kk
  t4 : K = 4 → T ≠ 0
  t0 : K ≠ 4 → T = 0
  a1 : (K = 4 ∨ K = 5 ∨ K = 6) → E = pcOf cs
  a0 : ¬ (K = 4 ∨ K = 5 ∨ K = 6) → E = 0
theorem says_of {n : Nat} {cs : Array Value} {x : BS} {g : Bool} {K T E : Int} {d : Nat} {cs' : Array Value} {x' : BS} {g' : Bool} {cut : Int} (h : runM cut n cs x g 0 = ⟨K, T, E, d, cs', x', g'⟩) : SaysE K T E d n cs' := by
  have := run_says cut n cs x g 0
  rw [h] at this
  simp only at this
  obtain ⟨h1, h2, h3, h4, h5, h6, h7, h8, h9⟩ := this
  exact ⟨by omega, by omega, by omega, fun hk => by have := h5 hk; omega, h9, h8, h6, h7⟩
theorem steps_quiet {w : World} {b m : Nat} {v : BV} {x : BS} {y : MC} (M : MachAt w b m v x y) (n : Nat) : Calls Tryd.prog 17 #[.pointer (some ⟨m, 0, none⟩)] (w.drewN n) fun e w' => e = .returned (.int .i64 y.st) ∧ w' = w.drewN n :=
  (mSteps_any (M.drew n)).mono fun e w' ⟨h1, h2⟩ => ⟨h1, h2.symm⟩
set_option maxRecDepth 100000 in
set_option maxHeartbeats 4000000 in
theorem mends_yes (A : Option Addr) (n c : Nat) (ent s : Int) (w : World) (hT : Tab w) (h0 : 0 ≤ ent) (hb : mgood n ent) (f : Nat → Int) (hf : ∀ i, 0 ≤ f i ∧ f i < 4294967296) (hr : RdI .u32 w A n f) (inp : ByteArray) (hs : inp.size ≤ 140737488351232) (most kk : Int) (j : Nat)
    (hbud : ∀ w, Calls Tryd.prog 16 #[.int .i64 most] w fun e w' => e = .returned (.int .i64 kk) ∧ w = w') (hj : min (max kk 0) 10000000 = (j : Int)) (hk : kk ≤ 3000) (hk0 : -9223372036854775808 ≤ kk) :
    Calls Tryd.prog 4 #[.agg #[.slice A n c, .int .u32 ent, .int .i64 s], .string inp, .int .i64 most] w fun e w' => e = .returned (.bool true) ∧ Below w.heap.size w w' := by
  have HT := Lib.hid hT
  have HBU := Lib.hid hbud
  have HMD := Lib.hid (fun (W : World) (hW : Below w.heap.size w W) => made_yes A n c ent s W h0 hb f hf (RdI.keep hr hW))
  obtain ⟨Z, hZ⟩ : ∃ Z, runM (-1) j (mcpu0 ent) ⟨wordsM f n, fedQ [] inp, [], 0, 0, 0, 0, secN s, fun _ => nought, []⟩ (lookV (-1) 0) 0 = Z := ⟨_, rfl⟩
  obtain ⟨K, T, E, d, cs, x', g⟩ := Z
  have hsay := says_of hZ
  have HZ := Lib.hid hZ
  have HJ := Lib.hid hj
  have hways : (kk < 0 ∧ j = 0) ∨ (¬ kk < 0 ∧ (j : Int) = kk) := by
    by_cases h : kk < 0
    · exact .inl ⟨h, by omega⟩
    · exact .inr ⟨h, by omega⟩
  obtain ⟨dI, hdI⟩ : ∃ dI : Int, (d : Int) = dI := ⟨_, rfl⟩
  rw [hdI] at hsay
  have HDI := Lib.hid hdI
  have HS := Lib.hid hsay
  have HWY := Lib.hid hways
  have hBox : Below w.heap.size w (w.alloc (.cells #[.slice A n c, .int .u32 ent, .int .i64 s] 45)) := (Below.refl _ _).alloc (Nat.le_refl _) _
  have HBX := Lib.hid hBox
  have KBX := Lib.hid (Blk.new w #[.slice A n c, .int .u32 ent, .int .i64 s] 45)
  clear hbud hr hf hZ hj hsay hways hdI hT hb hBox
  go_enter Tryd.func4, Tryd.ntmps4
  go_upto_region 2 with (go_at_call 8; refine (mshown_any _ (HT.out.below ((Below.refl _ _).alloc (Nat.le_refl _) _) HT.out.lt)).mono ?_; rintro e w1 ⟨rfl, hb1⟩; have HB1 := Lib.hid hb1; clear hb1)
  have HW1 := Lib.hid (HBX.out.trans (HB1.out.mono HBX.out.size))
  have K1 := KBX.out.step HB1.out
  have e0 := K1.cell 0
  have e1 := K1.cell 1
  have e2 := K1.cell 2
  simp only [List.getElem?_toArray, List.getElem?_cons_zero, List.getElem?_cons_succ] at e0 e1 e2
  clear K1 KBX HBX HB1
  go_upto_region 3 with (go_at_call 14; refine (HMD.out _ HW1.out).mono ?_; rintro e w2 ⟨b, m, v, r, rfl, M, hb2, hlo⟩; have O2 := Lib.hid (show Own1 w w2 b m v _ _ from ⟨M, HW1.out.trans (hb2.mono HW1.out.size), Nat.le_trans HW1.out.size hlo⟩); clear M hb2 hlo)
  clear e0 e1 e2 HMD
  go_upto_region 6 with (go_at_call 15; refine (O2.out.feed inp hs).mono ?_; rintro e w3 ⟨kf, rfl, v3, O, -⟩; have O3 := Lib.hid O; clear O)
  go_upto_region 7 with (go_at_call 16; refine (HBU.out _).mono ?_; rintro e w4 ⟨rfl, rfl⟩)
  clear HBU O2
  go_upto_region 8 with (go_at_call 11; refine (O3.out.run0 HT.out kk j HJ.out rfl HZ.out HDI.out).mono ?_; rintro e w5 ⟨rfl, v5, O, -⟩; have hn := new_end w5 K T E dI #[.int .i64 0, .int .i64 0, .int .u32 0, .int .i64 0] rfl; have O5 := Lib.hid (O.step ((Below.refl _ _).alloc (Nat.le_refl _) (.cells (endA K T E dI) 35))); have K5 := Lib.hid (Blk.new w5 (endA K T E dI) 35); clear O)
  clear hn O3
  have hcs : CpuOk cs := O5.out.a.ok
  have HCS := Lib.hid hcs
  obtain ⟨hc21, p0, p1⟩ := pc_is hcs
  have H21 := Lib.hid hc21
  have HPC := Lib.hid (show pcOf cs = pcOf cs from rfl)
  generalize hpc : pcOf cs = pc at H21 p0 p1
  clear hcs hc21 HPC
  have hpc2 := Lib.hid hpc
  clear hpc HZ
  go_upto_region 9 with (go_at_call 12; refine O5.out.cpu.mono ?_; rintro e w6 ⟨rfl, O, hb6⟩; have hs5 := store_new (w := w6) (Z := #[.int .u32 0, .int .u32 0, .int .u32 0, .int .u32 0, .int .u32 0, .int .u32 0, .int .u32 0, .int .u32 0, .int .u32 0, .int .u32 0, .int .u32 0, .int .u32 0, .int .u32 0, .int .u32 0, .int .u32 0, .int .u32 0, .int .u32 0, .bool false, .bool false, .bool false, .bool false, .int .u32 0]) (cs := cs) (t := 39) rfl HCS.out.size HCS.out.one; have k1 := (K5.out.step hb6).old (.cells cs 39); have k2 := Blk.new w6 cs 39; have e0 := k1.cell 0; have e1 := k1.cell 1; have e2 := k1.cell 2; have e3 := k1.cell 3; have g21 := (k2.cell 21).trans H21.out; simp only [endA, List.getElem?_toArray, List.getElem?_cons_zero, List.getElem?_cons_succ] at e0 e1 e2 e3; have O6 := Lib.hid (O.step ((Below.refl _ _).alloc (Nat.le_refl _) (.cells cs 39))); clear O hb6 k1 k2)
  clear hs5 K5 O5
  generalize w6.alloc (.cells cs 39) = w7 at *
  have HQ := Lib.hid (fun nq => steps_quiet O6.out.a nq)
  obtain ⟨hK, d0, d1, s1, st4, st0, sa1, sa0⟩ := HS.out
  rw [hpc2.out] at sa1
  rcases hK with rfl | rfl | rfl | rfl | rfl | rfl | rfl
  · have hT0 := st0 (by decide)
    have hE0 := sa0 (by decide)
    have hdj := s1 rfl
    subst hT0 hE0
    clear st4 st0 sa1 sa0 s1
    rcases HWY.out with ⟨t1, rfl⟩ | ⟨t1, hjk⟩
    · obtain rfl : dI = 0 := by omega
      clear HWY d0 d1 hdj
      have t2 : decide (kk < 0) = true := decide_eq_true t1
      refine wp_region_quiet_lit (by kernel_rfl) (by kernel_rfl) ?_
      repeat (first | go_big_quiet_step ((go_at_call 17; exact Calls.quiet_of_same (HQ.out _))) | quiet_step ((go_at_call 17; exact Calls.quiet_of_same (HQ.out _))))
      refine wpQuiet_nil ?_
      intro _ hw'
      obtain ⟨nq, hw''⟩ := hw'
      subst hw''
      go_wp2_with fail
      all_goals
        go_ret
        exact ⟨rfl, (O6.out.step (w' := w7.drewN nq) ⟨rfl, rfl, rfl, Nat.le_refl _, fun _ _ => rfl⟩).below⟩
    · obtain rfl : dI = kk := by omega
      clear HWY d1 hdj hjk
      have t2 : decide (dI < 0) = false := decide_eq_false (by omega)
      refine wp_region_quiet_lit (by kernel_rfl) (by kernel_rfl) ?_
      repeat (first | go_big_quiet_step ((go_at_call 17; exact Calls.quiet_of_same (HQ.out _))) | quiet_step ((go_at_call 17; exact Calls.quiet_of_same (HQ.out _))))
      refine wpQuiet_nil ?_
      intro _ hw'
      obtain ⟨nq, hw''⟩ := hw'
      subst hw''
      go_wp2_with fail
      all_goals
        go_ret
        exact ⟨rfl, (O6.out.step (w' := w7.drewN nq) ⟨rfl, rfl, rfl, Nat.le_refl _, fun _ _ => rfl⟩).below⟩
  · have hT0 := st0 (by decide)
    subst hT0
    have hE0 := sa0 (by decide)
    subst hE0
    have t3 : ¬ (if kk < 0 then 0 else kk) < dI := by
      rcases HWY.out with ⟨t1, rfl⟩ | ⟨t1, hjk⟩
      · rw [if_pos (by omega)]; omega
      · rw [if_neg (by omega)]; omega
    have t4 : decide ((if kk < 0 then 0 else kk) < dI) = false := decide_eq_false t3
    clear st4 st0 sa1 sa0 s1 HWY d1
    have t5 : decide (dI < 0) = false := decide_eq_false (by omega)
    refine wp_region_quiet_lit (by kernel_rfl) (by kernel_rfl) ?_
    repeat (first | go_big_quiet_step ((go_at_call 17; exact Calls.quiet_of_same (HQ.out _))) | quiet_step ((go_at_call 17; exact Calls.quiet_of_same (HQ.out _))))
    refine wpQuiet_nil ?_
    intro _ hw'
    obtain ⟨nq, hw''⟩ := hw'
    subst hw''
    go_wp2_with fail
    all_goals
      go_ret
      exact ⟨rfl, (O6.out.step (w' := w7.drewN nq) ⟨rfl, rfl, rfl, Nat.le_refl _, fun _ _ => rfl⟩).below⟩
  · have hT0 := st0 (by decide)
    subst hT0
    have hE0 := sa0 (by decide)
    subst hE0
    have t3 : ¬ (if kk < 0 then 0 else kk) < dI := by
      rcases HWY.out with ⟨t1, rfl⟩ | ⟨t1, hjk⟩
      · rw [if_pos (by omega)]; omega
      · rw [if_neg (by omega)]; omega
    have t4 : decide ((if kk < 0 then 0 else kk) < dI) = false := decide_eq_false t3
    clear st4 st0 sa1 sa0 s1 HWY d1
    have t5 : decide (dI < 0) = false := decide_eq_false (by omega)
    refine wp_region_quiet_lit (by kernel_rfl) (by kernel_rfl) ?_
    repeat (first | go_big_quiet_step ((go_at_call 17; exact Calls.quiet_of_same (HQ.out _))) | quiet_step ((go_at_call 17; exact Calls.quiet_of_same (HQ.out _))))
    refine wpQuiet_nil ?_
    intro _ hw'
    obtain ⟨nq, hw''⟩ := hw'
    subst hw''
    go_wp2_with fail
    all_goals
      go_ret
      exact ⟨rfl, (O6.out.step (w' := w7.drewN nq) ⟨rfl, rfl, rfl, Nat.le_refl _, fun _ _ => rfl⟩).below⟩
  · have hT4 : (T == 0) = false := by simpa using st4 rfl
    have hT5 : (T != 0) = true := by simpa using st4 rfl
    have hE0 := sa1 (by decide)
    subst hE0
    have t3 : ¬ (if kk < 0 then 0 else kk) < dI := by
      rcases HWY.out with ⟨t1, rfl⟩ | ⟨t1, hjk⟩
      · rw [if_pos (by omega)]; omega
      · rw [if_neg (by omega)]; omega
    have t4 : decide ((if kk < 0 then 0 else kk) < dI) = false := decide_eq_false t3
    clear st4 st0 sa1 sa0 s1 HWY d1
    have t5 : decide (dI < 0) = false := decide_eq_false (by omega)
    refine wp_region_quiet_lit (by kernel_rfl) (by kernel_rfl) ?_
    repeat (first | go_big_quiet_step ((go_at_call 17; exact Calls.quiet_of_same (HQ.out _))) | quiet_step ((go_at_call 17; exact Calls.quiet_of_same (HQ.out _))))
    refine wpQuiet_nil ?_
    intro _ hw'
    obtain ⟨nq, hw''⟩ := hw'
    subst hw''
    go_wp2_with fail
    all_goals
      go_ret
      exact ⟨rfl, (O6.out.step (w' := w7.drewN nq) ⟨rfl, rfl, rfl, Nat.le_refl _, fun _ _ => rfl⟩).below⟩
  · have hT0 := st0 (by decide)
    subst hT0
    have hE0 := sa1 (by decide)
    subst hE0
    have t3 : ¬ (if kk < 0 then 0 else kk) < dI := by
      rcases HWY.out with ⟨t1, rfl⟩ | ⟨t1, hjk⟩
      · rw [if_pos (by omega)]; omega
      · rw [if_neg (by omega)]; omega
    have t4 : decide ((if kk < 0 then 0 else kk) < dI) = false := decide_eq_false t3
    clear st4 st0 sa1 sa0 s1 HWY d1
    have t5 : decide (dI < 0) = false := decide_eq_false (by omega)
    refine wp_region_quiet_lit (by kernel_rfl) (by kernel_rfl) ?_
    repeat (first | go_big_quiet_step ((go_at_call 17; exact Calls.quiet_of_same (HQ.out _))) | quiet_step ((go_at_call 17; exact Calls.quiet_of_same (HQ.out _))))
    refine wpQuiet_nil ?_
    intro _ hw'
    obtain ⟨nq, hw''⟩ := hw'
    subst hw''
    go_wp2_with fail
    all_goals
      go_ret
      exact ⟨rfl, (O6.out.step (w' := w7.drewN nq) ⟨rfl, rfl, rfl, Nat.le_refl _, fun _ _ => rfl⟩).below⟩
  · have hT0 := st0 (by decide)
    subst hT0
    have hE0 := sa1 (by decide)
    subst hE0
    have t3 : ¬ (if kk < 0 then 0 else kk) < dI := by
      rcases HWY.out with ⟨t1, rfl⟩ | ⟨t1, hjk⟩
      · rw [if_pos (by omega)]; omega
      · rw [if_neg (by omega)]; omega
    have t4 : decide ((if kk < 0 then 0 else kk) < dI) = false := decide_eq_false t3
    clear st4 st0 sa1 sa0 s1 HWY d1
    have t5 : decide (dI < 0) = false := decide_eq_false (by omega)
    refine wp_region_quiet_lit (by kernel_rfl) (by kernel_rfl) ?_
    repeat (first | go_big_quiet_step ((go_at_call 17; exact Calls.quiet_of_same (HQ.out _))) | quiet_step ((go_at_call 17; exact Calls.quiet_of_same (HQ.out _))))
    refine wpQuiet_nil ?_
    intro _ hw'
    obtain ⟨nq, hw''⟩ := hw'
    subst hw''
    go_wp2_with fail
    all_goals
      go_ret
      exact ⟨rfl, (O6.out.step (w' := w7.drewN nq) ⟨rfl, rfl, rfl, Nat.le_refl _, fun _ _ => rfl⟩).below⟩
  · have hT0 := st0 (by decide)
    subst hT0
    have hE0 := sa0 (by decide)
    subst hE0
    have t3 : ¬ (if kk < 0 then 0 else kk) < dI := by
      rcases HWY.out with ⟨t1, rfl⟩ | ⟨t1, hjk⟩
      · rw [if_pos (by omega)]; omega
      · rw [if_neg (by omega)]; omega
    have t4 : decide ((if kk < 0 then 0 else kk) < dI) = false := decide_eq_false t3
    clear st4 st0 sa1 sa0 s1 HWY d1
    have t5 : decide (dI < 0) = false := decide_eq_false (by omega)
    refine wp_region_quiet_lit (by kernel_rfl) (by kernel_rfl) ?_
    repeat (first | go_big_quiet_step ((go_at_call 17; exact Calls.quiet_of_same (HQ.out _))) | quiet_step ((go_at_call 17; exact Calls.quiet_of_same (HQ.out _))))
    refine wpQuiet_nil ?_
    intro _ hw'
    obtain ⟨nq, hw''⟩ := hw'
    subst hw''
    go_wp2_with fail
    all_goals
      go_ret
      exact ⟨rfl, (O6.out.step (w' := w7.drewN nq) ⟨rfl, rfl, rfl, Nat.le_refl _, fun _ _ => rfl⟩).below⟩
end Go.Proofs.YtgcknekhimpfkaaDoor
