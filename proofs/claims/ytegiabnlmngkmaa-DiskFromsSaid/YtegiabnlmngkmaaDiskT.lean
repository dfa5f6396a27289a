/- One step, by both disks. -/
import Derived.Test.YtegiabnlmngkmaaDiskS
import Derived.Deep.RegionHeld3
import Derived.Deep.Cut
import Derived.WalkSpells
namespace Go.Proofs.Ytegiabnlmngkmaa
open Go Go.RowKit Go.Lib
set_option linter.unusedVariables false
set_option linter.unusedSimpArgs false
attribute [local go_sem ↓] exec_load_step
theorem wpAnyH_strong' {P : Program} {md : Region.Mode} {ops : Array Oper} {Q : Exit → Act → World → Prop} {S S' : World → Prop} (h : ∀ w, S' w → S w) :
    ∀ (fuel : Nat) (listed : Array Bool) (a : Act) (w : World), wpAnyH P md ops Q S' fuel listed a w → wpAnyH P md ops Q S fuel listed a w
  | 0, _, _, _, k => k
  | fuel + 1, _, _, _, k => ⟨k.1, fun i hi => wpOp_mono (fun a' w' hh => ⟨h w' hh.1, wpAnyH_strong' h fuel _ a' w' hh.2⟩) (k.2 i hi)⟩
theorem step_drew {w : World} {b : Nat} {cs : Array Value} (h : StepAt w b cs) : StepAt w.drew b cs := h
theorem bytes_drew {w : World} {g : Nat} {l : List UInt8} (h : BytesAt w g l) : BytesAt w.drew g l := h
theorem below_drew (w : World) : Below w.heap.size w w.drew := (Below.refl _ w).drew
theorem bytes_same {w w' : World} {g : Nat} {l : List UInt8} (h : BytesAt w g l) (e : w'.heap = w.heap) : BytesAt w' g l := by unfold BytesAt at h ⊢; rw [e]; exact h
theorem away_mono {w : World} {x d s : Nat} {v : Value} {r : Nat} {vf vw : Value} (h : Away x d s v r vf vw) : x ∉ drow d s v ∧ x ∉ rrow r vf vw := h
theorem two_no {w : World} {base d s : Nat} {v : Value} {r : Nat} {vf vw : Value} {N : Nat} {sec : Nat → ByteArray} {ws : List (Nat × ByteArray)} {sec0 : Nat → ByteArray} {hist : List (Nat × ByteArray)}
    (T : Pair w base d s v r vf vw N sec ws sec0 hist) (n : Int) (hn0 : -9223372036854775808 ≤ n ∧ n ≤ 9223372036854775807) (x : Int) (k : Nat) (hk2 : k ≤ 9223372036854775807) (hbig : hist.length ≤ 4096)
    (hx : (¬ (0 ≤ n ∧ n < N) ∧ x = 31) ∨ ((0 ≤ n ∧ n < N) ∧ k ≠ 1024 ∧ x = 32) ∨ ((0 ≤ n ∧ n < N) ∧ k = 1024 ∧ ws.length = 4096 ∧ hist.length = 4096 ∧ x = 33)) (a : Option Addr) :
    (Calls Try.prog 11 #[.pointer (some ⟨d, 0, none⟩), .int .i64 n, .slice a k k] w fun e w' => e = .returned (.int .i64 x) ∧ w = w') ∧
    (Calls Try.prog 26 #[.pointer (some ⟨r, 0, none⟩), .int .i64 n, .slice a k k] w fun e w' => e = .returned (.int .i64 x) ∧ w = w') := by
  refine ⟨?_, rwrite_no T.R n a k k hn0.2 hk2 ?_ x ?_⟩
  · refine (write_no T.D n hn0 a k k hk2 (fun h => by rcases hx with h1 | h1 | h1 <;> omega)).mono ?_
    rintro e w' ⟨rfl, rfl⟩
    refine ⟨?_, rfl⟩
    rcases hx with ⟨h1, rfl⟩ | ⟨h1, h2, rfl⟩ | ⟨h1, h2, h3, h4, rfl⟩
    · rw [if_neg h1]
    · rw [if_pos h1, if_neg h2]
    · rw [if_pos h1, if_pos h2]
  · exact hbig
  · rcases hx with ⟨h1, rfl⟩ | ⟨h1, h2, rfl⟩ | ⟨h1, h2, h3, h4, rfl⟩
    · exact .inl ⟨by omega, rfl⟩
    · exact .inr (.inl ⟨h1.1, h1.2, by simpa using fun e => h2 (by omega), rfl⟩)
    · exact .inr (.inr ⟨h1.1, h1.2, h2, h4, rfl⟩)
set_option maxHeartbeats 1000000 in
theorem does_w_yes {w : World} {base d s : Nat} {v : Value} {r : Nat} {vf vw : Value} {N : Nat} {sec : Nat → ByteArray} {ws : List (Nat × ByteArray)} {sec0 : Nat → ByteArray} {hist : List (Nat × ByteArray)}
    (T : Pair w base d s v r vf vw N sec ws sec0 hist) (n : Nat) (hn : n < N) (few : ws.length < 4096) (fewh : hist.length < 4096) (long : Int) (HLG : Hid (stepLong long = 1024)) (fill mark : UInt8) :
    Calls Try.prog 16 #[.pointer (some ⟨d, 0, none⟩), .pointer (some ⟨r, 0, none⟩), .agg #[.int .i64 1, .int .i64 (n : Int), .int .u8 fill.toNat, .int .u8 mark.toNat, .int .i64 long]] w fun e w' => e = .returned (.bool true) ∧ ∃ v' vw', Pair w' base d s v' r vf vw' N (upd sec n (ofL (stepBytes fill mark long))) (ws ++ [(n, sec n)]) sec0 (hist ++ [(n, ofL (stepBytes fill mark long))]) ∧ Below base w w' := by
  have hbl := T.base_le
  have hA := StepAt.new w #[.int .i64 1, .int .i64 (n : Int), .int .u8 fill.toNat, .int .u8 mark.toNat, .int .i64 long]
  have T0 := T.below ((Below.refl w.heap.size w).alloc (Nat.le_refl _) (.cells #[.int .i64 1, .int .i64 (n : Int), .int .u8 fill.toNat, .int .u8 mark.toNat, .int .i64 long] 23))
  have aw := T.away w.heap.size (.inl (Nat.le_refl _))
  have B0 : Below base w (w.alloc (.cells #[.int .i64 1, .int .i64 (n : Int), .int .u8 fill.toNat, .int .u8 mark.toNat, .int .i64 long] 23)) := (Below.refl base w).alloc hbl _
  have hld := fun (w' : World) (h : Hid (StepAt w' w.heap.size #[.int .i64 1, .int .i64 (n : Int), .int .u8 fill.toNat, .int .u8 mark.toNat, .int .i64 long])) => load_step w' _ _ rfl h.out
  have hc1 : ∀ w', Hid (StepAt w' w.heap.size #[.int .i64 1, .int .i64 (n : Int), .int .u8 fill.toNat, .int .u8 mark.toNat, .int .i64 long]) → w'.cell? ⟨w.heap.size, 1, none⟩ = some (.int .i64 (n : Int)) := fun w' h => h.out.cell 1
  have hc0 : ∀ w', Hid (StepAt w' w.heap.size #[.int .i64 1, .int .i64 (n : Int), .int .u8 fill.toNat, .int .u8 mark.toNat, .int .i64 long]) → w'.cell? ⟨w.heap.size, 0, none⟩ = some (.int .i64 1) := fun w' h => h.out.cell 0
  have HA := (show Hid (StepAt _ _ _) from hA)
  have hSl : (stepBytes fill mark long).length = stepLong long := by simp [stepBytes]
  have HT := Lib.hid T
  have HT0 := Lib.hid T0
  have HB0 := Lib.hid B0
  have HAW := Lib.hid aw
  clear hA T T0 B0 aw
  generalize hSb : stepBytes fill mark long = Sb at *
  have HSB := Lib.hid hSb
  have HSL := Lib.hid hSl
  clear hSb hSl
  go_enter Try.func16, Try.ntmps16
  go_upto_region 3 with (first | (go_at_call 12; go_must (refine (filled_any _ _ _ _ _ _).mono ?_); rintro e w1 ⟨g1, rfl, q1, q2, q3⟩; rw [HSB.out] at q2; rw [HLG.out]))
  have T1 := HT0.out.below q3
  have a1 := HT0.out.away g1 (.inl q1)
  have HA1 : Hid (StepAt w1 w.heap.size #[.int .i64 1, .int .i64 (n : Int), .int .u8 fill.toNat, .int .u8 mark.toNat, .int .i64 long]) := HA.out.below q3 HA.out.lt
  have B1 := HB0.out.trans (q3.mono (by simp; omega))
  have HQ2 := Lib.hid q2
  have HT1 := Lib.hid T1
  have HB1 := Lib.hid B1
  have HAW1 := Lib.hid a1
  have hgw : w.heap.size < g1 := by simp at q1; omega
  have hgne : g1 ≠ w.heap.size := by omega
  have hg1l := q2.lt
  have HSL' := Lib.hid (HSL.out.trans HLG.out)
  clear q1 q2 q3 T1 a1 B1 HA HT0 HB0
  go_upto_region 4 with (first | (go_at_call 11; go_must (refine (HT1.out.dwrite n hn few g1 Sb HSL'.out HQ2.out HAW1.out).mono ?_); rintro e w2 ⟨rfl, v2, T2, t2, aw2⟩))
  have HA2 : Hid (StepAt w2 w.heap.size #[.int .i64 1, .int .i64 (n : Int), .int .u8 fill.toNat, .int .u8 mark.toNat, .int .i64 long]) := HA1.out.touch t2 HAW.out.1
  have HQ22 := Lib.hid (HQ2.out.touch t2 HAW1.out.1)
  have HAW2 := Lib.hid (aw2 _ (HA1.out.lt) HAW.out)
  have HAW12 := Lib.hid (aw2 _ HQ2.out.lt HAW1.out)
  have HB2 := Lib.hid (HB1.out.trans (t2.below (Nat.le_trans hbl HB1.out.size) (fun g hg => (drow_lt HT1.out.D g hg).1)))
  have HT2 := Lib.hid T2
  have hsz2 := t2.size
  clear T2 t2 aw2 HT1 HA1 HQ2 HB1
  have HA2d : Hid (StepAt w2.drew w.heap.size #[.int .i64 1, .int .i64 (n : Int), .int .u8 fill.toNat, .int .u8 mark.toNat, .int .i64 long]) := HA2.out
  refine wp_region_held_drew (S := fun w' => Hid (StepAt w' w.heap.size #[.int .i64 1, .int .i64 (n : Int), .int .u8 fill.toNat, .int .u8 mark.toNat, .int .i64 long])) (by kernel_rfl) HA2d (fun hHeld => ?_)
  refine wpAnyH_take (i := 0) (oi := _) (v := ?v0_1) rfl (by kernel_rfl) (by kernel_rfl) (by kernel_rfl) (fun _ _ _ h => h) (Or.inl ⟨by rfl, ?hy0_1⟩) (by assumption) ?rest0_1
  case hy0_1 => (intro wq hSw; (try dsimp only at hSw); simp only [List.getElem_toArray, List.getElem_cons_zero, List.getElem_cons_succ]; go_simp; try with_reducible rfl)
  simp only [Act.put, List.getElem_toArray, List.getElem_cons_zero, List.getElem_cons_succ, List.setIfInBounds_toArray, List.set_cons_zero, List.set_cons_succ]
  refine wpAnyH_take (i := 1) (oi := _) (v := ?v1_2) rfl (by kernel_rfl) (by kernel_rfl) (by kernel_rfl) (fun _ _ _ h => h) (Or.inl ⟨by rfl, ?hy1_2⟩) (by assumption) ?rest1_2
  case hy1_2 => (intro wq hSw; (try dsimp only at hSw); simp only [List.getElem_toArray, List.getElem_cons_zero, List.getElem_cons_succ]; go_simp; try with_reducible rfl)
  simp only [Act.put, List.getElem_toArray, List.getElem_cons_zero, List.getElem_cons_succ, List.setIfInBounds_toArray, List.set_cons_zero, List.set_cons_succ]
  refine wpAnyH_take (i := 2) (oi := _) (v := ?v2_3) rfl (by kernel_rfl) (by kernel_rfl) (by kernel_rfl) (fun _ _ _ h => h) (Or.inl ⟨by rfl, ?hy2_3⟩) (by assumption) ?rest2_3
  case hy2_3 => (intro wq hSw; (try dsimp only at hSw); simp only [List.getElem_toArray, List.getElem_cons_zero, List.getElem_cons_succ]; go_simp; try with_reducible rfl)
  simp only [Act.put, List.getElem_toArray, List.getElem_cons_zero, List.getElem_cons_succ, List.setIfInBounds_toArray, List.set_cons_zero, List.set_cons_succ]
  refine wpAnyH_take (i := 3) (oi := _) (v := ?v3_4) rfl (by kernel_rfl) (by kernel_rfl) (by kernel_rfl) (fun _ _ _ h => h) (Or.inl ⟨by rfl, ?hy3_4⟩) (by assumption) ?rest3_4
  case hy3_4 => (intro wq hSw; (try dsimp only at hSw); simp only [List.getElem_toArray, List.getElem_cons_zero, List.getElem_cons_succ]; go_simp; try with_reducible rfl)
  simp only [Act.put, List.getElem_toArray, List.getElem_cons_zero, List.getElem_cons_succ, List.setIfInBounds_toArray, List.set_cons_zero, List.set_cons_succ]
  refine wpAnyH_ready (rs := [4]) (by kernel_rfl) (by simp) ?_
  refine AllReadyH.cons (o := _) rfl (fun K hK => ?_) AllReadyH.nil
  try simp only [List.getElem_toArray, List.getElem_cons_zero, List.getElem_cons_succ]
  go_simp
  go_at_call 12
  refine (filled_any _ _ _ _ _ _).mono ?_
  rintro e w3 ⟨g3, rfl, q1, q2, q3⟩
  rw [HSB.out] at q2
  rw [HLG.out]
  have bd : Below w2.heap.size w2 w3 := (below_drew w2).trans q3
  have HA3 : Hid (StepAt w3 w.heap.size #[.int .i64 1, .int .i64 (n : Int), .int .u8 fill.toNat, .int .u8 mark.toNat, .int .i64 long]) := HA2.out.below bd HA2.out.lt
  have HQ3 := Lib.hid q2
  have HT3 := Lib.hid (HT2.out.below bd)
  have HQ13 := Lib.hid (HQ22.out.below bd HQ22.out.lt)
  have HB3 := Lib.hid (HB2.out.trans (bd.mono (Nat.le_trans hbl HB2.out.size)))
  clear q1 q2 q3
  refine hK.out _ _ HA3 (fun _ => ?_)
  try simp only [Act.put, List.getElem_toArray, List.getElem_cons_zero, List.getElem_cons_succ, List.setIfInBounds_toArray, List.set_cons_zero, List.set_cons_succ]
  refine wpAnyH_ready (rs := [5]) (by kernel_rfl) (by simp) ?_
  refine AllReadyH.cons (o := _) rfl (fun K hK => ?_) AllReadyH.nil
  try simp only [List.getElem_toArray, List.getElem_cons_zero, List.getElem_cons_succ]
  go_simp
  go_at_call 26
  refine (HT3.out.rwrite n hn fewh g3 Sb HSL'.out HQ3.out).mono ?_
  rintro e w4 ⟨rfl, vw4, T4, t4, aw4⟩
  have HA4 : Hid (StepAt w4 w.heap.size #[.int .i64 1, .int .i64 (n : Int), .int .u8 fill.toNat, .int .u8 mark.toNat, .int .i64 long]) := HA3.out.touch t4 HAW2.out.2
  have HQ4 := Lib.hid (HQ13.out.touch t4 HAW12.out.2)
  have HAW4 := Lib.hid (aw4 _ HA3.out.lt HAW2.out)
  have HAW14 := Lib.hid (aw4 _ HQ13.out.lt HAW12.out)
  have HB4 := Lib.hid (HB3.out.trans (t4.below (Nat.le_trans hbl HB3.out.size) (fun g hg => (rrow_lt HT3.out.R g hg).1)))
  have HT4 := Lib.hid T4
  clear T4 t4 aw4
  refine hK.out _ _ HA4 (fun _ => ?_)
  try simp only [Act.put, List.getElem_toArray, List.getElem_cons_zero, List.getElem_cons_succ, List.setIfInBounds_toArray, List.set_cons_zero, List.set_cons_succ]
  refine wpAnyH_take (i := 6) (oi := _) (v := ?v6_5) rfl (by kernel_rfl) (by kernel_rfl) (by kernel_rfl) (fun _ _ _ h => h) (Or.inl ⟨by rfl, ?hy6_5⟩) (by assumption) ?rest6_5
  case hy6_5 => (intro wq hSw; (try dsimp only at hSw); simp only [List.getElem_toArray, List.getElem_cons_zero, List.getElem_cons_succ]; go_simp; try with_reducible rfl)
  simp only [Act.put, List.getElem_toArray, List.getElem_cons_zero, List.getElem_cons_succ, List.setIfInBounds_toArray, List.set_cons_zero, List.set_cons_succ]
  refine wpAnyH_done (by kernel_rfl) ?_ _
  clear HT2 HA2 HQ22 HB2 HA2d HA3 HQ3 HT3 HQ13 HB3
  go_upto_region 5 with fail
  have HS4 : Hid (StepAt w4.drew w.heap.size #[.int .i64 1, .int .i64 (n : Int), .int .u8 fill.toNat, .int .u8 mark.toNat, .int .i64 long]) ∧ Hid (BytesAt w4.drew g1 Sb) := ⟨HA4.out, HQ4.out⟩
  have hcv : ∀ w', Hid (BytesAt w' g1 Sb) → (convert 30 9 (.slice (some ⟨g1, 0, none⟩) 1024 1024)).run Try.prog w' = .ok (.string (ofL Sb)) w' := fun w' h => conv_bytes HSL'.out h.out
  refine wp_region_held_drew (S := fun w' => Hid (StepAt w' w.heap.size #[.int .i64 1, .int .i64 (n : Int), .int .u8 fill.toNat, .int .u8 mark.toNat, .int .i64 long]) ∧ Hid (BytesAt w' g1 Sb)) (by kernel_rfl) HS4 (fun hHeld => ?_)
  refine wpAnyH_take (i := 0) (oi := _) (v := ?v0_6) rfl (by kernel_rfl) (by kernel_rfl) (by kernel_rfl) (fun _ _ _ h => h) (Or.inl ⟨by rfl, ?hy0_6⟩) (by assumption) ?rest0_6
  case hy0_6 => (intro wq hSw; (try dsimp only at hSw); obtain ⟨hSw, hSh⟩ := hSw; simp only [List.getElem_toArray, List.getElem_cons_zero, List.getElem_cons_succ]; go_simp; try with_reducible rfl)
  simp only [Act.put, List.getElem_toArray, List.getElem_cons_zero, List.getElem_cons_succ, List.setIfInBounds_toArray, List.set_cons_zero, List.set_cons_succ]
  refine wpAnyH_take (i := 1) (oi := _) (v := ?v1_7) rfl (by kernel_rfl) (by kernel_rfl) (by kernel_rfl) (fun _ _ _ h => h) (Or.inl ⟨by rfl, ?hy1_7⟩) (by assumption) ?rest1_7
  case hy1_7 => (intro wq hSw; (try dsimp only at hSw); obtain ⟨hSw, hSh⟩ := hSw; simp only [List.getElem_toArray, List.getElem_cons_zero, List.getElem_cons_succ]; go_simp; try with_reducible rfl)
  simp only [Act.put, List.getElem_toArray, List.getElem_cons_zero, List.getElem_cons_succ, List.setIfInBounds_toArray, List.set_cons_zero, List.set_cons_succ]
  refine wpAnyH_take (i := 2) (oi := _) (v := ?v2_8) rfl (by kernel_rfl) (by kernel_rfl) (by kernel_rfl) (fun _ _ _ h => h) (Or.inl ⟨by rfl, ?hy2_8⟩) (by assumption) ?rest2_8
  case hy2_8 => (intro wq hSw; (try dsimp only at hSw); obtain ⟨hSw, hSh⟩ := hSw; simp only [List.getElem_toArray, List.getElem_cons_zero, List.getElem_cons_succ]; go_simp; try with_reducible rfl)
  simp only [Act.put, List.getElem_toArray, List.getElem_cons_zero, List.getElem_cons_succ, List.setIfInBounds_toArray, List.set_cons_zero, List.set_cons_succ]
  refine wpAnyH_ready (rs := [3]) (by kernel_rfl) (by simp) ?_
  refine AllReadyH.cons (o := _) rfl (fun K hK => ?_) AllReadyH.nil
  try simp only [List.getElem_toArray, List.getElem_cons_zero, List.getElem_cons_succ]
  go_simp
  go_at_call 12
  refine (filled_any _ _ _ _ _ _).mono ?_
  rintro e w5 ⟨g5, rfl, q1, q2, q3⟩
  rw [HSB.out] at q2
  rw [HLG.out]
  have bd : Below w4.heap.size w4 w5 := (below_drew w4).trans q3
  have HS5 : Hid (StepAt w5 w.heap.size #[.int .i64 1, .int .i64 (n : Int), .int .u8 fill.toNat, .int .u8 mark.toNat, .int .i64 long]) ∧ Hid (BytesAt w5 g1 Sb) := ⟨HA4.out.below bd HA4.out.lt, HQ4.out.below bd HQ4.out.lt⟩
  have hcz : ∀ w', w'.heap = w5.heap → (convert 30 9 (.slice (some ⟨g5, 0, none⟩) 1024 1024)).run Try.prog w' = .ok (.string (ofL Sb)) w' := fun w' h => conv_bytes HSL'.out (bytes_same q2 h)
  have HT5 := Lib.hid (HT4.out.below bd)
  have HB5 := Lib.hid (HB4.out.trans (bd.mono (Nat.le_trans hbl HB4.out.size)))
  clear q1 q2 q3
  refine hK.out _ _ HS5 (fun _ => ?_)
  have HS6 : (Hid (StepAt w5 w.heap.size #[.int .i64 1, .int .i64 (n : Int), .int .u8 fill.toNat, .int .u8 mark.toNat, .int .i64 long]) ∧ Hid (BytesAt w5 g1 Sb)) ∧ w5.heap = w5.heap := ⟨HS5, rfl⟩
  refine wpAnyH_strong' (S' := fun w' => (Hid (StepAt w' w.heap.size #[.int .i64 1, .int .i64 (n : Int), .int .u8 fill.toNat, .int .u8 mark.toNat, .int .i64 long]) ∧ Hid (BytesAt w' g1 Sb)) ∧ w'.heap = w5.heap) (fun _ h => h.1) _ _ _ _ ?_
  try simp only [Act.put, List.getElem_toArray, List.getElem_cons_zero, List.getElem_cons_succ, List.setIfInBounds_toArray, List.set_cons_zero, List.set_cons_succ]
  refine wpAnyH_take (i := 4) (oi := _) (v := ?v4_9) rfl (by kernel_rfl) (by kernel_rfl) (by kernel_rfl) (fun _ _ _ h => h) (Or.inl ⟨by rfl, ?hy4_9⟩) (by assumption) ?rest4_9
  case hy4_9 => (intro wq hSw; (try dsimp only at hSw); obtain ⟨hSw, hSh⟩ := hSw; simp only [List.getElem_toArray, List.getElem_cons_zero, List.getElem_cons_succ]; go_simp; try with_reducible rfl)
  simp only [Act.put, List.getElem_toArray, List.getElem_cons_zero, List.getElem_cons_succ, List.setIfInBounds_toArray, List.set_cons_zero, List.set_cons_succ]
  refine wpAnyH_take (i := 5) (oi := _) (v := ?v5_10) rfl (by kernel_rfl) (by kernel_rfl) (by kernel_rfl) (fun _ _ _ h => h) (Or.inl ⟨by rfl, ?hy5_10⟩) (by assumption) ?rest5_10
  case hy5_10 => (intro wq hSw; (try dsimp only at hSw); obtain ⟨hSw, hSh⟩ := hSw; simp only [List.getElem_toArray, List.getElem_cons_zero, List.getElem_cons_succ]; go_simp; try with_reducible rfl)
  simp only [Act.put, List.getElem_toArray, List.getElem_cons_zero, List.getElem_cons_succ, List.setIfInBounds_toArray, List.set_cons_zero, List.set_cons_succ]
  refine wpAnyH_take (i := 6) (oi := _) (v := ?v6_11) rfl (by kernel_rfl) (by kernel_rfl) (by kernel_rfl) (fun _ _ _ h => h) (Or.inl ⟨by rfl, ?hy6_11⟩) (by assumption) ?rest6_11
  case hy6_11 => (intro wq hSw; (try dsimp only at hSw); obtain ⟨hSw, hSh⟩ := hSw; simp only [List.getElem_toArray, List.getElem_cons_zero, List.getElem_cons_succ]; go_simp; try with_reducible rfl)
  simp only [Act.put, List.getElem_toArray, List.getElem_cons_zero, List.getElem_cons_succ, List.setIfInBounds_toArray, List.set_cons_zero, List.set_cons_succ]
  refine wpAnyH_done (by kernel_rfl) ?_ _
  have HQ5 := Lib.hid HS5.2.out
  clear HS5 HS6 HS4 HT4 HB4 HA4 HQ4 hcv hcz hld hc1 hc0
  have HLOOP : Hid (∃ l : List UInt8, l.length = 1024 ∧ BytesAt w5 g1 l ∧ Pair w5 base d s v2 r vf vw4 N (upd sec n (ofL Sb)) (ws ++ [(n, sec n)]) sec0 (hist ++ [(n, ofL Sb)]) ∧ Below base w w5) := ⟨Sb, HSL'.out, HQ5.out, HT5.out, HB5.out⟩
  clear HQ5 HT5 HB5
  go_wp2_with fail
  go_loopw [11] (fun i wr => ∃ j : Nat, j ≤ 1024 ∧ i = .int .i64 j ∧ Hid (∃ l : List UInt8, l.length = 1024 ∧ BytesAt wr g1 l ∧ Pair wr base d s v2 r vf vw4 N (upd sec n (ofL Sb)) (ws ++ [(n, sec n)]) sec0 (hist ++ [(n, ofL Sb)]) ∧ Below base w wr)) (fun i _ => 1024 - (intOf i).toNat)
  case atStart => exact ⟨0, by omega, rfl, HLOOP.out⟩
  case round =>
    obtain ⟨j, hj, rfl, HX⟩ := hrel
    obtain ⟨l, hl, hb, TT, BB⟩ := HX.out
    by_cases hlt : j < 1024
    · obtain ⟨u, hcl⟩ : ∃ u, wr.cell? ⟨g1, j, none⟩ = some u := ⟨_, hb.cell (j := j) (by omega)⟩
      have hfr := hb.frozen j
      have hl2 : (j : Int) < 1024 := by omega
      have HBS := Lib.hid (show BytesAt (wr.setCell ⟨g1, j, none⟩ (.int .u8 200)) g1 (l.set j 200) from hb.set j 200)
      have HTS := Lib.hid (TT.set g1 j (.int .u8 200) HAW14.out)
      have HBB := Lib.hid (BB.setCell (p := ⟨g1, j, none⟩) (show base ≤ g1 by omega) (.int .u8 200))
      have HL := Lib.hid hl
      clear hl hb TT BB HX HLOOP
      go_wp2_with fail
      go_roundw
      case rel => exact ⟨j + 1, by omega, by go_num, _, by rw [List.length_set]; exact HL.out, HBS.out, HTS.out, HBB.out⟩
      case measure => simp [intOf]; omega
    · obtain rfl : j = 1024 := by omega
      have TT' := Lib.hid TT
      have BB' := Lib.hid BB
      clear HLOOP HX TT BB hl hb hj hlt
      go_wp2_with fail
      go_ret
      exact ⟨rfl, _, _, TT'.out, BB'.out⟩
set_option maxHeartbeats 1000000 in
theorem does_w_no {w : World} {base d s : Nat} {v : Value} {r : Nat} {vf vw : Value} {N : Nat} {sec : Nat → ByteArray} {ws : List (Nat × ByteArray)} {sec0 : Nat → ByteArray} {hist : List (Nat × ByteArray)}
    (T : Pair w base d s v r vf vw N sec ws sec0 hist) (n : Int) (hn0 : -9223372036854775808 ≤ n ∧ n ≤ 9223372036854775807) (x : Int) (k : Nat) (hk2 : k ≤ 9223372036854775807) (long : Int) (HLG : Hid (stepLong long = k)) (HBG : Hid (hist.length ≤ 4096)) (HXX : Hid ((¬ (0 ≤ n ∧ n < N) ∧ x = 31) ∨ ((0 ≤ n ∧ n < N) ∧ k ≠ 1024 ∧ x = 32) ∨ ((0 ≤ n ∧ n < N) ∧ k = 1024 ∧ ws.length = 4096 ∧ hist.length = 4096 ∧ x = 33))) (fill mark : UInt8) :
    Calls Try.prog 16 #[.pointer (some ⟨d, 0, none⟩), .pointer (some ⟨r, 0, none⟩), .agg #[.int .i64 1, .int .i64 n, .int .u8 fill.toNat, .int .u8 mark.toNat, .int .i64 long]] w fun e w' => e = .returned (.bool true) ∧ ∃ v' vw', Pair w' base d s v' r vf vw' N sec ws sec0 hist ∧ Below base w w' := by
  have hbl := T.base_le
  have hA := StepAt.new w #[.int .i64 1, .int .i64 n, .int .u8 fill.toNat, .int .u8 mark.toNat, .int .i64 long]
  have T0 := T.below ((Below.refl w.heap.size w).alloc (Nat.le_refl _) (.cells #[.int .i64 1, .int .i64 n, .int .u8 fill.toNat, .int .u8 mark.toNat, .int .i64 long] 23))
  have aw := T.away w.heap.size (.inl (Nat.le_refl _))
  have B0 : Below base w (w.alloc (.cells #[.int .i64 1, .int .i64 n, .int .u8 fill.toNat, .int .u8 mark.toNat, .int .i64 long] 23)) := (Below.refl base w).alloc hbl _
  have hld := fun (w' : World) (h : Hid (StepAt w' w.heap.size #[.int .i64 1, .int .i64 n, .int .u8 fill.toNat, .int .u8 mark.toNat, .int .i64 long])) => load_step w' _ _ rfl h.out
  have hc1 : ∀ w', Hid (StepAt w' w.heap.size #[.int .i64 1, .int .i64 n, .int .u8 fill.toNat, .int .u8 mark.toNat, .int .i64 long]) → w'.cell? ⟨w.heap.size, 1, none⟩ = some (.int .i64 n) := fun w' h => h.out.cell 1
  have hc0 : ∀ w', Hid (StepAt w' w.heap.size #[.int .i64 1, .int .i64 n, .int .u8 fill.toNat, .int .u8 mark.toNat, .int .i64 long]) → w'.cell? ⟨w.heap.size, 0, none⟩ = some (.int .i64 1) := fun w' h => h.out.cell 0
  have HA := (show Hid (StepAt _ _ _) from hA)
  have hSl : (stepBytes fill mark long).length = stepLong long := by simp [stepBytes]
  have HT := Lib.hid T
  have HT0 := Lib.hid T0
  have HB0 := Lib.hid B0
  have HAW := Lib.hid aw
  clear hA T T0 B0 aw
  generalize hSb : stepBytes fill mark long = Sb at *
  have HSB := Lib.hid hSb
  have HSL := Lib.hid hSl
  clear hSb hSl
  go_enter Try.func16, Try.ntmps16
  go_upto_region 3 with (first | (go_at_call 12; go_must (refine (filled_any _ _ _ _ _ _).mono ?_); rintro e w1 ⟨g1, rfl, q1, q2, q3⟩; rw [HSB.out] at q2; rw [HLG.out]))
  have T1 := HT0.out.below q3
  have a1 := HT0.out.away g1 (.inl q1)
  have HA1 : Hid (StepAt w1 w.heap.size #[.int .i64 1, .int .i64 n, .int .u8 fill.toNat, .int .u8 mark.toNat, .int .i64 long]) := HA.out.below q3 HA.out.lt
  have B1 := HB0.out.trans (q3.mono (by simp; omega))
  have HQ2 := Lib.hid q2
  have HT1 := Lib.hid T1
  have HB1 := Lib.hid B1
  have HAW1 := Lib.hid a1
  have hgw : w.heap.size < g1 := by simp at q1; omega
  have hgne : g1 ≠ w.heap.size := by omega
  have hg1l := q2.lt
  have HSL' := Lib.hid (HSL.out.trans HLG.out)
  clear q1 q2 q3 T1 a1 B1 HA HT0 HB0
  go_upto_region 4 with (first | (go_at_call 11; go_must (refine (two_no HT1.out n hn0 x k hk2 HBG.out HXX.out (some ⟨g1, 0, none⟩)).1.mono ?_); rintro e w2 ⟨rfl, rfl⟩))
  have HA2 := HA1
  have HQ22 := HQ2
  have HAW2 := HAW
  have HAW12 := HAW1
  have HB2 := HB1
  have HT2 := HT1
  clear HT1 HA1 HQ2 HB1
  have HA2d : Hid (StepAt w1.drew w.heap.size #[.int .i64 1, .int .i64 n, .int .u8 fill.toNat, .int .u8 mark.toNat, .int .i64 long]) := HA2.out
  refine wp_region_held_drew (S := fun w' => Hid (StepAt w' w.heap.size #[.int .i64 1, .int .i64 n, .int .u8 fill.toNat, .int .u8 mark.toNat, .int .i64 long])) (by kernel_rfl) HA2d (fun hHeld => ?_)
  refine wpAnyH_take (i := 0) (oi := _) (v := ?v0_12) rfl (by kernel_rfl) (by kernel_rfl) (by kernel_rfl) (fun _ _ _ h => h) (Or.inl ⟨by rfl, ?hy0_12⟩) (by assumption) ?rest0_12
  case hy0_12 => (intro wq hSw; (try dsimp only at hSw); simp only [List.getElem_toArray, List.getElem_cons_zero, List.getElem_cons_succ]; go_simp; try with_reducible rfl)
  simp only [Act.put, List.getElem_toArray, List.getElem_cons_zero, List.getElem_cons_succ, List.setIfInBounds_toArray, List.set_cons_zero, List.set_cons_succ]
  refine wpAnyH_take (i := 1) (oi := _) (v := ?v1_13) rfl (by kernel_rfl) (by kernel_rfl) (by kernel_rfl) (fun _ _ _ h => h) (Or.inl ⟨by rfl, ?hy1_13⟩) (by assumption) ?rest1_13
  case hy1_13 => (intro wq hSw; (try dsimp only at hSw); simp only [List.getElem_toArray, List.getElem_cons_zero, List.getElem_cons_succ]; go_simp; try with_reducible rfl)
  simp only [Act.put, List.getElem_toArray, List.getElem_cons_zero, List.getElem_cons_succ, List.setIfInBounds_toArray, List.set_cons_zero, List.set_cons_succ]
  refine wpAnyH_take (i := 2) (oi := _) (v := ?v2_14) rfl (by kernel_rfl) (by kernel_rfl) (by kernel_rfl) (fun _ _ _ h => h) (Or.inl ⟨by rfl, ?hy2_14⟩) (by assumption) ?rest2_14
  case hy2_14 => (intro wq hSw; (try dsimp only at hSw); simp only [List.getElem_toArray, List.getElem_cons_zero, List.getElem_cons_succ]; go_simp; try with_reducible rfl)
  simp only [Act.put, List.getElem_toArray, List.getElem_cons_zero, List.getElem_cons_succ, List.setIfInBounds_toArray, List.set_cons_zero, List.set_cons_succ]
  refine wpAnyH_take (i := 3) (oi := _) (v := ?v3_15) rfl (by kernel_rfl) (by kernel_rfl) (by kernel_rfl) (fun _ _ _ h => h) (Or.inl ⟨by rfl, ?hy3_15⟩) (by assumption) ?rest3_15
  case hy3_15 => (intro wq hSw; (try dsimp only at hSw); simp only [List.getElem_toArray, List.getElem_cons_zero, List.getElem_cons_succ]; go_simp; try with_reducible rfl)
  simp only [Act.put, List.getElem_toArray, List.getElem_cons_zero, List.getElem_cons_succ, List.setIfInBounds_toArray, List.set_cons_zero, List.set_cons_succ]
  refine wpAnyH_ready (rs := [4]) (by kernel_rfl) (by simp) ?_
  refine AllReadyH.cons (o := _) rfl (fun K hK => ?_) AllReadyH.nil
  try simp only [List.getElem_toArray, List.getElem_cons_zero, List.getElem_cons_succ]
  go_simp
  go_at_call 12
  refine (filled_any _ _ _ _ _ _).mono ?_
  rintro e w3 ⟨g3, rfl, q1, q2, q3⟩
  rw [HSB.out] at q2
  rw [HLG.out]
  have bd : Below w1.heap.size w1 w3 := (below_drew w1).trans q3
  have HA3 : Hid (StepAt w3 w.heap.size #[.int .i64 1, .int .i64 n, .int .u8 fill.toNat, .int .u8 mark.toNat, .int .i64 long]) := HA2.out.below bd HA2.out.lt
  have HQ3 := Lib.hid q2
  have HT3 := Lib.hid (HT2.out.below bd)
  have HQ13 := Lib.hid (HQ22.out.below bd HQ22.out.lt)
  have HB3 := Lib.hid (HB2.out.trans (bd.mono (Nat.le_trans hbl HB2.out.size)))
  clear q1 q2 q3
  refine hK.out _ _ HA3 (fun _ => ?_)
  try simp only [Act.put, List.getElem_toArray, List.getElem_cons_zero, List.getElem_cons_succ, List.setIfInBounds_toArray, List.set_cons_zero, List.set_cons_succ]
  refine wpAnyH_ready (rs := [5]) (by kernel_rfl) (by simp) ?_
  refine AllReadyH.cons (o := _) rfl (fun K hK => ?_) AllReadyH.nil
  try simp only [List.getElem_toArray, List.getElem_cons_zero, List.getElem_cons_succ]
  go_simp
  go_at_call 26
  refine (two_no HT3.out n hn0 x k hk2 HBG.out HXX.out (some ⟨g3, 0, none⟩)).2.mono ?_
  rintro e w4 ⟨rfl, rfl⟩
  have HA4 := HA3
  have HQ4 := HQ13
  have HAW4 := HAW2
  have HAW14 := HAW12
  have HB4 := HB3
  have HT4 := HT3
  refine hK.out _ _ HA4 (fun _ => ?_)
  try simp only [Act.put, List.getElem_toArray, List.getElem_cons_zero, List.getElem_cons_succ, List.setIfInBounds_toArray, List.set_cons_zero, List.set_cons_succ]
  refine wpAnyH_take (i := 6) (oi := _) (v := ?v6_16) rfl (by kernel_rfl) (by kernel_rfl) (by kernel_rfl) (fun _ _ _ h => h) (Or.inl ⟨by rfl, ?hy6_16⟩) (by assumption) ?rest6_16
  case hy6_16 => (intro wq hSw; (try dsimp only at hSw); simp only [List.getElem_toArray, List.getElem_cons_zero, List.getElem_cons_succ]; go_simp; try with_reducible rfl)
  simp only [Act.put, List.getElem_toArray, List.getElem_cons_zero, List.getElem_cons_succ, List.setIfInBounds_toArray, List.set_cons_zero, List.set_cons_succ]
  refine wpAnyH_done (by kernel_rfl) ?_ _
  clear HT2 HA2 HQ22 HB2 HA2d HA3 HQ3 HT3 HQ13 HB3
  go_upto_region 5 with fail
  have HS4 : Hid (StepAt w3.drew w.heap.size #[.int .i64 1, .int .i64 n, .int .u8 fill.toNat, .int .u8 mark.toNat, .int .i64 long]) ∧ Hid (BytesAt w3.drew g1 Sb) := ⟨HA4.out, HQ4.out⟩
  have hcv : ∀ w', Hid (BytesAt w' g1 Sb) → (convert 30 9 (.slice (some ⟨g1, 0, none⟩) k k)).run Try.prog w' = .ok (.string (ofL Sb)) w' := fun w' h => conv_bytes HSL'.out h.out
  refine wp_region_held_drew (S := fun w' => Hid (StepAt w' w.heap.size #[.int .i64 1, .int .i64 n, .int .u8 fill.toNat, .int .u8 mark.toNat, .int .i64 long]) ∧ Hid (BytesAt w' g1 Sb)) (by kernel_rfl) HS4 (fun hHeld => ?_)
  refine wpAnyH_take (i := 0) (oi := _) (v := ?v0_17) rfl (by kernel_rfl) (by kernel_rfl) (by kernel_rfl) (fun _ _ _ h => h) (Or.inl ⟨by rfl, ?hy0_17⟩) (by assumption) ?rest0_17
  case hy0_17 => (intro wq hSw; (try dsimp only at hSw); obtain ⟨hSw, hSh⟩ := hSw; simp only [List.getElem_toArray, List.getElem_cons_zero, List.getElem_cons_succ]; go_simp; try with_reducible rfl)
  simp only [Act.put, List.getElem_toArray, List.getElem_cons_zero, List.getElem_cons_succ, List.setIfInBounds_toArray, List.set_cons_zero, List.set_cons_succ]
  refine wpAnyH_take (i := 1) (oi := _) (v := ?v1_18) rfl (by kernel_rfl) (by kernel_rfl) (by kernel_rfl) (fun _ _ _ h => h) (Or.inl ⟨by rfl, ?hy1_18⟩) (by assumption) ?rest1_18
  case hy1_18 => (intro wq hSw; (try dsimp only at hSw); obtain ⟨hSw, hSh⟩ := hSw; simp only [List.getElem_toArray, List.getElem_cons_zero, List.getElem_cons_succ]; go_simp; try with_reducible rfl)
  simp only [Act.put, List.getElem_toArray, List.getElem_cons_zero, List.getElem_cons_succ, List.setIfInBounds_toArray, List.set_cons_zero, List.set_cons_succ]
  refine wpAnyH_take (i := 2) (oi := _) (v := ?v2_19) rfl (by kernel_rfl) (by kernel_rfl) (by kernel_rfl) (fun _ _ _ h => h) (Or.inl ⟨by rfl, ?hy2_19⟩) (by assumption) ?rest2_19
  case hy2_19 => (intro wq hSw; (try dsimp only at hSw); obtain ⟨hSw, hSh⟩ := hSw; simp only [List.getElem_toArray, List.getElem_cons_zero, List.getElem_cons_succ]; go_simp; try with_reducible rfl)
  simp only [Act.put, List.getElem_toArray, List.getElem_cons_zero, List.getElem_cons_succ, List.setIfInBounds_toArray, List.set_cons_zero, List.set_cons_succ]
  refine wpAnyH_ready (rs := [3]) (by kernel_rfl) (by simp) ?_
  refine AllReadyH.cons (o := _) rfl (fun K hK => ?_) AllReadyH.nil
  try simp only [List.getElem_toArray, List.getElem_cons_zero, List.getElem_cons_succ]
  go_simp
  go_at_call 12
  refine (filled_any _ _ _ _ _ _).mono ?_
  rintro e w5 ⟨g5, rfl, q1, q2, q3⟩
  rw [HSB.out] at q2
  rw [HLG.out]
  have bd : Below w3.heap.size w3 w5 := (below_drew w3).trans q3
  have HS5 : Hid (StepAt w5 w.heap.size #[.int .i64 1, .int .i64 n, .int .u8 fill.toNat, .int .u8 mark.toNat, .int .i64 long]) ∧ Hid (BytesAt w5 g1 Sb) := ⟨HA4.out.below bd HA4.out.lt, HQ4.out.below bd HQ4.out.lt⟩
  have hcz : ∀ w', w'.heap = w5.heap → (convert 30 9 (.slice (some ⟨g5, 0, none⟩) k k)).run Try.prog w' = .ok (.string (ofL Sb)) w' := fun w' h => conv_bytes HSL'.out (bytes_same q2 h)
  have HT5 := Lib.hid (HT4.out.below bd)
  have HB5 := Lib.hid (HB4.out.trans (bd.mono (Nat.le_trans hbl HB4.out.size)))
  clear q1 q2 q3
  refine hK.out _ _ HS5 (fun _ => ?_)
  have HS6 : (Hid (StepAt w5 w.heap.size #[.int .i64 1, .int .i64 n, .int .u8 fill.toNat, .int .u8 mark.toNat, .int .i64 long]) ∧ Hid (BytesAt w5 g1 Sb)) ∧ w5.heap = w5.heap := ⟨HS5, rfl⟩
  refine wpAnyH_strong' (S' := fun w' => (Hid (StepAt w' w.heap.size #[.int .i64 1, .int .i64 n, .int .u8 fill.toNat, .int .u8 mark.toNat, .int .i64 long]) ∧ Hid (BytesAt w' g1 Sb)) ∧ w'.heap = w5.heap) (fun _ h => h.1) _ _ _ _ ?_
  try simp only [Act.put, List.getElem_toArray, List.getElem_cons_zero, List.getElem_cons_succ, List.setIfInBounds_toArray, List.set_cons_zero, List.set_cons_succ]
  refine wpAnyH_take (i := 4) (oi := _) (v := ?v4_20) rfl (by kernel_rfl) (by kernel_rfl) (by kernel_rfl) (fun _ _ _ h => h) (Or.inl ⟨by rfl, ?hy4_20⟩) (by assumption) ?rest4_20
  case hy4_20 => (intro wq hSw; (try dsimp only at hSw); obtain ⟨hSw, hSh⟩ := hSw; simp only [List.getElem_toArray, List.getElem_cons_zero, List.getElem_cons_succ]; go_simp; try with_reducible rfl)
  simp only [Act.put, List.getElem_toArray, List.getElem_cons_zero, List.getElem_cons_succ, List.setIfInBounds_toArray, List.set_cons_zero, List.set_cons_succ]
  refine wpAnyH_take (i := 5) (oi := _) (v := ?v5_21) rfl (by kernel_rfl) (by kernel_rfl) (by kernel_rfl) (fun _ _ _ h => h) (Or.inl ⟨by rfl, ?hy5_21⟩) (by assumption) ?rest5_21
  case hy5_21 => (intro wq hSw; (try dsimp only at hSw); obtain ⟨hSw, hSh⟩ := hSw; simp only [List.getElem_toArray, List.getElem_cons_zero, List.getElem_cons_succ]; go_simp; try with_reducible rfl)
  simp only [Act.put, List.getElem_toArray, List.getElem_cons_zero, List.getElem_cons_succ, List.setIfInBounds_toArray, List.set_cons_zero, List.set_cons_succ]
  refine wpAnyH_take (i := 6) (oi := _) (v := ?v6_22) rfl (by kernel_rfl) (by kernel_rfl) (by kernel_rfl) (fun _ _ _ h => h) (Or.inl ⟨by rfl, ?hy6_22⟩) (by assumption) ?rest6_22
  case hy6_22 => (intro wq hSw; (try dsimp only at hSw); obtain ⟨hSw, hSh⟩ := hSw; simp only [List.getElem_toArray, List.getElem_cons_zero, List.getElem_cons_succ]; go_simp; try with_reducible rfl)
  simp only [Act.put, List.getElem_toArray, List.getElem_cons_zero, List.getElem_cons_succ, List.setIfInBounds_toArray, List.set_cons_zero, List.set_cons_succ]
  refine wpAnyH_done (by kernel_rfl) ?_ _
  have HQ5 := Lib.hid HS5.2.out
  clear HS5 HS6 HS4 HT4 HB4 HA4 HQ4 hcv hcz hld hc1 hc0
  have HLOOP : Hid (∃ l : List UInt8, l.length = k ∧ BytesAt w5 g1 l ∧ Pair w5 base d s v r vf vw N sec ws sec0 hist ∧ Below base w w5) := ⟨Sb, HSL'.out, HQ5.out, HT5.out, HB5.out⟩
  clear HQ5 HT5 HB5
  go_wp2_with fail
  go_loopw [11] (fun i wr => ∃ j : Nat, j ≤ k ∧ i = .int .i64 j ∧ Hid (∃ l : List UInt8, l.length = k ∧ BytesAt wr g1 l ∧ Pair wr base d s v r vf vw N sec ws sec0 hist ∧ Below base w wr)) (fun i _ => k - (intOf i).toNat)
  case atStart => exact ⟨0, by omega, rfl, HLOOP.out⟩
  case round =>
    obtain ⟨j, hj, rfl, HX⟩ := hrel
    obtain ⟨l, hl, hb, TT, BB⟩ := HX.out
    by_cases hlt : j < k
    · obtain ⟨u, hcl⟩ : ∃ u, wr.cell? ⟨g1, j, none⟩ = some u := ⟨_, hb.cell (j := j) (by omega)⟩
      have hfr := hb.frozen j
      have hl2 : (j : Int) < (k : Int) := by omega
      have HBS := Lib.hid (show BytesAt (wr.setCell ⟨g1, j, none⟩ (.int .u8 200)) g1 (l.set j 200) from hb.set j 200)
      have HTS := Lib.hid (TT.set g1 j (.int .u8 200) HAW14.out)
      have HBB := Lib.hid (BB.setCell (p := ⟨g1, j, none⟩) (show base ≤ g1 by omega) (.int .u8 200))
      have HL := Lib.hid hl
      clear hl hb TT BB HX HLOOP
      go_wp2_with fail
      go_roundw
      case rel => exact ⟨j + 1, by omega, by go_num, _, by rw [List.length_set]; exact HL.out, HBS.out, HTS.out, HBB.out⟩
      case measure => simp [intOf]; omega
    · obtain rfl : j = k := by omega
      have TT' := Lib.hid TT
      have BB' := Lib.hid BB
      clear HLOOP HX TT BB hl hb
      go_wp2_with fail
      go_ret
      exact ⟨by simp, _, _, TT'.out, BB'.out⟩
end Go.Proofs.Ytegiabnlmngkmaa
