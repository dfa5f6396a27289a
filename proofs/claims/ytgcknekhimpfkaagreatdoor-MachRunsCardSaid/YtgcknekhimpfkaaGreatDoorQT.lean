/- The document's bus: a command. -/
import Derived.Test.YtgcknekhimpfkaaGreatDoorQS
import Derived.Deep.QuietTactic
import Derived.BigQuiet
import Derived.Deep.RegionHeld3
import Derived.StillTailTactics
namespace Go.Proofs.YtgcknekhimpfkaaGreatDoor
open Go Go.RowKit Go.Lib Go.Proofs.YtgcknekhimpfkaaGreatDoor.Pl
set_option maxHeartbeats 1000000
set_option linter.unusedVariables false
set_option linter.unusedSimpArgs false
section
variable {w : World} {base : Nat} {v : RV} {x : BS} {sec0 : Nat → ByteArray} {hist : List (Nat × ByteArray)}
theorem RBusAt.drewN (B : RBusAt w base v x sec0 hist) (n : Nat) : RBusAt (w.drewN n) base v x sec0 hist := B.below ⟨rfl, rfl, rfl, Nat.le_refl _, fun _ _ => rfl⟩
theorem rsectors_quiet (B : RBusAt w base v x sec0 hist) (n : Nat) : Calls Tryz.prog 101 #[.pointer (some ⟨v.r, 0, none⟩)] (w.drewN n) fun e w' => e = .returned (.int .i64 (x.N : Int)) ∧ w' = w.drewN n :=
 (rsectors_any (B.drewN n).disk).mono fun e w' ⟨h1, h2⟩ => ⟨h1, h2.symm⟩
/-- A command that may not be. -/
def rmay (x : BS) (c : Int) : Prop := (c = 1 ∨ c = 2) ∧ x.se < x.N ∧ x.ad % 4 = 0 ∧ x.ad ≤ 1047552
set_option maxRecDepth 100000 in
theorem rdone_no (B : RBusAt w base v x sec0 hist) (c : Int) (h : ¬ rmay x c) :
 Calls Tryz.prog 102 #[.pointer (some ⟨v.b, 0, none⟩), .int .u32 c] w fun e w' => e = .returned (.bool false) ∧ RBusAt w' base v x sec0 hist ∧ RMoves w w' v v := by
 have hw : (¬ c = 1 ∧ ¬ c = 2) ∨ ((c = 1 ∨ c = 2) ∧ (x.N : Int) ≤ x.se) ∨ ((c = 1 ∨ c = 2) ∧ x.se < x.N ∧ ¬ x.ad % 4 = 0) ∨ ((c = 1 ∨ c = 2) ∧ x.se < x.N ∧ x.ad % 4 = 0 ∧ 1047552 < x.ad) := by unfold rmay at h; omega
 clear h
 obtain ⟨-, c1, -, -, -, c5, c6, -⟩ := B.cells
 obtain ⟨n0, n1⟩ := B.nb
 obtain ⟨s0, s1⟩ := B.seb
 obtain ⟨a0, a1⟩ := B.adb
 have m0 : (0 : Int) ≤ (x.N : Int) := by omega
 have m1 : (x.N : Int) ≤ 1024 := by omega
 have HB := hid B
 have HQ := hid (fun n => rsectors_quiet B n)
 have HZ := hid (show ∀ nq, RBusAt (w.drewN nq) base v x sec0 hist ∧ RMoves w (w.drewN nq) v v from fun nq => ⟨B.drewN nq, RMoves.of_below _ ⟨rfl, rfl, rfl, Nat.le_refl _, fun _ _ => rfl⟩⟩)
 generalize x.se = SE at *
 generalize x.ad = AD at *
 generalize x.N = N at *
 clear B HB
 rcases hw with ⟨h1, h2⟩ | ⟨h1, h2⟩ | ⟨h1, h2, h3⟩ | ⟨h1, h2, h3, h4⟩
 ·have t1 : (c != 1) = true := by simpa using h1
  have t2 : (c != 2) = true := by simpa using h2
  go_enter Tryz.func102, Tryz.ntmps102
  go_wp2_with fail
  refine wp_region_quiet_lit (by kernel_rfl) (by kernel_rfl) ?_
  repeat (first | go_big_quiet_step ((go_at_call 101; exact Calls.quiet_of_same (HQ.out _))) | quiet_step ((go_at_call 101; exact Calls.quiet_of_same (HQ.out _))))
  refine wpQuiet_nil ?_
  intro _ hw'
  obtain ⟨nq, hw''⟩ := hw'
  subst hw''
  go_wp2_with fail
  go_ret
  exact ⟨rfl, HZ.out nq⟩
 ·rcases h1 with rfl | rfl
  ·have t3 : decide ((N : Int) ≤ SE) = true := decide_eq_true h2
   go_enter Tryz.func102, Tryz.ntmps102
   go_wp2_with fail
   refine wp_region_quiet_lit (by kernel_rfl) (by kernel_rfl) ?_
   repeat (first | go_big_quiet_step ((go_at_call 101; exact Calls.quiet_of_same (HQ.out _))) | quiet_step ((go_at_call 101; exact Calls.quiet_of_same (HQ.out _))))
   refine wpQuiet_nil ?_
   intro _ hw'
   obtain ⟨nq, hw''⟩ := hw'
   subst hw''
   go_wp2_with fail
   go_ret
   exact ⟨rfl, HZ.out nq⟩
  ·have t3 : decide ((N : Int) ≤ SE) = true := decide_eq_true h2
   go_enter Tryz.func102, Tryz.ntmps102
   go_wp2_with fail
   refine wp_region_quiet_lit (by kernel_rfl) (by kernel_rfl) ?_
   repeat (first | go_big_quiet_step ((go_at_call 101; exact Calls.quiet_of_same (HQ.out _))) | quiet_step ((go_at_call 101; exact Calls.quiet_of_same (HQ.out _))))
   refine wpQuiet_nil ?_
   intro _ hw'
   obtain ⟨nq, hw''⟩ := hw'
   subst hw''
   go_wp2_with fail
   go_ret
   exact ⟨rfl, HZ.out nq⟩
 ·rcases h1 with rfl | rfl
  ·have t3 : decide ((N : Int) ≤ SE) = false := decide_eq_false (by omega)
   have t4 : (AD % 4 != 0) = true := by simpa using h3
   go_enter Tryz.func102, Tryz.ntmps102
   go_wp2_with fail
   refine wp_region_quiet_lit (by kernel_rfl) (by kernel_rfl) ?_
   repeat (first | go_big_quiet_step ((go_at_call 101; exact Calls.quiet_of_same (HQ.out _))) | quiet_step ((go_at_call 101; exact Calls.quiet_of_same (HQ.out _))))
   refine wpQuiet_nil ?_
   intro _ hw'
   obtain ⟨nq, hw''⟩ := hw'
   subst hw''
   go_wp2_with fail
   go_ret
   exact ⟨rfl, HZ.out nq⟩
  ·have t3 : decide ((N : Int) ≤ SE) = false := decide_eq_false (by omega)
   have t4 : (AD % 4 != 0) = true := by simpa using h3
   go_enter Tryz.func102, Tryz.ntmps102
   go_wp2_with fail
   refine wp_region_quiet_lit (by kernel_rfl) (by kernel_rfl) ?_
   repeat (first | go_big_quiet_step ((go_at_call 101; exact Calls.quiet_of_same (HQ.out _))) | quiet_step ((go_at_call 101; exact Calls.quiet_of_same (HQ.out _))))
   refine wpQuiet_nil ?_
   intro _ hw'
   obtain ⟨nq, hw''⟩ := hw'
   subst hw''
   go_wp2_with fail
   go_ret
   exact ⟨rfl, HZ.out nq⟩
 ·rcases h1 with rfl | rfl
  ·have t3 : decide ((N : Int) ≤ SE) = false := decide_eq_false (by omega)
   have t4 : (AD % 4 != 0) = false := by simpa using h3
   have t5 : decide (1047552 < AD) = true := decide_eq_true h4
   go_enter Tryz.func102, Tryz.ntmps102
   go_wp2_with fail
   refine wp_region_quiet_lit (by kernel_rfl) (by kernel_rfl) ?_
   repeat (first | go_big_quiet_step ((go_at_call 101; exact Calls.quiet_of_same (HQ.out _))) | quiet_step ((go_at_call 101; exact Calls.quiet_of_same (HQ.out _))))
   refine wpQuiet_nil ?_
   intro _ hw'
   obtain ⟨nq, hw''⟩ := hw'
   subst hw''
   go_wp2_with fail
   go_ret
   exact ⟨rfl, HZ.out nq⟩
  ·have t3 : decide ((N : Int) ≤ SE) = false := decide_eq_false (by omega)
   have t4 : (AD % 4 != 0) = false := by simpa using h3
   have t5 : decide (1047552 < AD) = true := decide_eq_true h4
   go_enter Tryz.func102, Tryz.ntmps102
   go_wp2_with fail
   refine wp_region_quiet_lit (by kernel_rfl) (by kernel_rfl) ?_
   repeat (first | go_big_quiet_step ((go_at_call 101; exact Calls.quiet_of_same (HQ.out _))) | quiet_step ((go_at_call 101; exact Calls.quiet_of_same (HQ.out _))))
   refine wpQuiet_nil ?_
   intro _ hw'
   obtain ⟨nq, hw''⟩ := hw'
   subst hw''
   go_wp2_with fail
   go_ret
   exact ⟨rfl, HZ.out nq⟩
end
section
variable {w : World} {base : Nat} {v : RV} {x : BS} {sec0 : Nat → ByteArray} {hist : List (Nat × ByteArray)}
theorem rlay_any (B : RBusAt w base v x sec0 hist) (a : Nat) (ha : a < 1048576) (c : Int) (y0 : 0 ≤ c) (y1 : c ≤ 255) :
 Calls Tryz.prog 89 #[.pointer (some ⟨v.b, 0, none⟩), .int .u32 (a : Int), .int .u8 c] w fun e w' => e = .returned (.tuple #[]) ∧ RBusAt w' base v { x with M := setB x.M a c } sec0 hist ∧ RMoves w w' v v := by
 have h := rlay_at B (a / 4) (a % 4) (by omega) (by omega) (a : Int) (by omega) c y0 y1
 rw [show 4 * (a / 4) + a % 4 = a from by omega] at h
 exact h
theorem rbyte_any (B : RBusAt w base v x sec0 hist) (a : Nat) (ha : a < 1048576) :
 Calls Tryz.prog 88 #[.pointer (some ⟨v.b, 0, none⟩), .int .u32 (a : Int)] w fun e w' => e = .returned (.int .u8 (x.M a)) ∧ w = w' := by
 have h := rbyte_at B (a / 4) (a % 4) (by omega) (by omega) (a : Int) (by omega)
 rw [show 4 * (a / 4) + a % 4 = a from by omega] at h
 exact h
theorem laidS_zero (M : Nat → Int) (a : Nat) (s : ByteArray) : laidS M a 0 s = M := by
 funext i
 unfold laidS
 rw [if_neg (by omega)]
theorem laidS_step (M : Nat → Int) (a k : Nat) (s : ByteArray) : setB (laidS M a k s) (a + k) (byteAt s k) = laidS M a (k + 1) s := by
 funext i
 unfold setB laidS
 by_cases h : i = a + k
 ·subst h
  rw [if_pos rfl, if_pos (by omega), show a + k - a = k from by omega]
 ·rw [if_neg h]
  by_cases h2 : a ≤ i ∧ i < a + k
  ·rw [if_pos h2, if_pos (by omega)]
  ·rw [if_neg h2, if_neg (by omega)]
theorem byteAt_get (s : ByteArray) (k : Nat) (h : k < s.size) : byteAt s k = ((s[k]'h).toNat : Int) := by
 unfold byteAt
 have hl : k < s.data.toList.length := by rw [Array.length_toList]; exact h
 rw [List.getD_eq_getElem?_getD, List.getElem?_eq_getElem hl]
 rfl
/-- A sector, read into memory. -/
def RRd (w wr : World) (base : Nat) (v : RV) (x : BS) (sec0 : Nat → ByteArray) (hist : List (Nat × ByteArray)) (p k : Nat) (S : ByteArray) : Prop :=
 RBusAt wr base v { x with M := laidS x.M p k S } sec0 hist ∧ RMoves w wr v v
set_option maxRecDepth 100000 in
theorem rdone_read (B : RBusAt w base v x sec0 hist) (n p : Nat) (hn : x.se = n) (hp : x.ad = p) (hn2 : n < x.N) (hp4 : p % 4 = 0) (hp2 : p ≤ 1047552) :
 Calls Tryz.prog 102 #[.pointer (some ⟨v.b, 0, none⟩), .int .u32 1] w fun e w' => e = .returned (.bool true) ∧ RRd w w' base v x sec0 hist p 1024 (x.sec n) := by
 obtain ⟨-, c1, -, -, -, c5, c6, -⟩ := B.cells
 obtain ⟨n0, n1⟩ := B.nb
 have m0 : (0 : Int) ≤ (x.N : Int) := by omega
 have m1 : (x.N : Int) ≤ 1024 := by omega
 have HQ := hid (fun n => rsectors_quiet B n)
 have hrd : ∀ a nq, Calls Tryz.prog 111 #[.pointer (some ⟨v.r, 0, none⟩), .int .i64 (n : Int)] ((w.drewN a).drewN nq) fun e w' => e = .returned (.tuple #[.string (x.sec n), .int .i64 0]) ∧ w' = (w.drewN a).drewN nq := fun a nq => by
  have h := rread_yes ((B.drewN a).drewN nq).disk n hn2 B.few n1
  rw [← B.sec] at h
  exact h.mono fun e w' ⟨h1, h2⟩ => ⟨h1, h2.symm⟩
 have HRD := hid hrd
 have hS := B.slen n hn2
 have HS0 := hid (show ∀ a nq, RRd w ((w.drewN a).drewN nq) base v x sec0 hist p 0 (x.sec n) from fun a nq => ⟨by rw [laidS_zero]; exact (B.drewN a).drewN nq, (RMoves.of_below v ⟨rfl, rfl, rfl, Nat.le_refl _, fun _ _ => rfl⟩).trans (RMoves.of_below v ⟨rfl, rfl, rfl, Nat.le_refl _, fun _ _ => rfl⟩)⟩)
 rw [hn] at c5
 rw [hp] at c6
 have hb1 : (n : Int) < (x.N : Int) := by omega
 have t3 : decide ((x.N : Int) ≤ (n : Int)) = false := decide_eq_false (by omega)
 have t4 : ((p : Int) % 4 != 0) = false := by simp; omega
 have t5 : decide (1047552 < (p : Int)) = false := decide_eq_false (by omega)
 have p0 : (p : Int) ≤ 1047552 := by omega
 have p1 : (0 : Int) ≤ (p : Int) := by omega
 have n3 : (0 : Int) ≤ (n : Int) := by omega
 have n2 : (n : Int) ≤ 1024 := by omega
 obtain ⟨S, hSS⟩ : ∃ S, x.sec n = S := ⟨_, rfl⟩
 rw [hSS] at hS HRD HS0 ⊢
 have HP := hid hp
 clear hrd B hSS hn hp
 generalize x.N = N at *
 have t3' : decide (N ≤ n) = false := decide_eq_false (by omega)
 go_enter Tryz.func102, Tryz.ntmps102
 go_wp2_with fail
 refine wp_region_quiet_lit (by kernel_rfl) (by kernel_rfl) ?_
 repeat (first | go_big_quiet_step ((go_at_call 101; exact Calls.quiet_of_same (HQ.out _))) | quiet_step ((go_at_call 101; exact Calls.quiet_of_same (HQ.out _))))
 refine wpQuiet_nil ?_
 intro _ hw'
 obtain ⟨nq, hw''⟩ := hw'
 subst hw''
 go_wp2_with fail
 have HRD2 := hid (fun m => HRD.out nq m)
 have HS2 := hid (fun m => HS0.out nq m)
 have d1 : (w.drewN nq).cell? ⟨v.b, 1, none⟩ = some (.pointer (some ⟨v.r, 0, none⟩)) := by rw [World.cell?_drewN]; exact c1
 have d5 : (w.drewN nq).cell? ⟨v.b, 5, none⟩ = some (.int .u32 (n : Int)) := by rw [World.cell?_drewN]; exact c5
 clear HRD HS0 c1 c5 c6
 generalize w.drewN nq = w2 at HRD2 HS2 d1 d5 ⊢
 refine wp_region_quiet_lit (by kernel_rfl) (by kernel_rfl) ?_
 repeat (first | go_big_quiet_step ((go_at_call 111; exact Calls.quiet_of_same (HRD2.out _))) | quiet_step ((go_at_call 111; exact Calls.quiet_of_same (HRD2.out _))))
 refine wpQuiet_nil ?_
 intro _ hw'
 obtain ⟨nq, hw''⟩ := hw'
 subst hw''
 clear t3 t3' t4 t5
 go_wp2_with fail
 go_loopw [7] (fun i wr => ∃ k : Nat, k ≤ 1024 ∧ i = .int .i64 k ∧ Hid (RRd w wr base v x sec0 hist p k S)) (fun i _ => 1024 - (intOf i).toNat)
 case atStart => exact ⟨0, by decide, rfl, hid (HS2.out _)⟩
 case round =>
  obtain ⟨k, hk, rfl, HX⟩ := hrel
  by_cases hlt : k < 1024
  ·have hlt' : (k : Int) < 1024 := by omega
   obtain ⟨bx, mx⟩ := HX.out
   obtain ⟨-, -, -, -, -, -, d6, -⟩ := bx.drew.cells
   simp only [HP.out] at d6
   have hkS : k < S.size := by rw [hS]; exact hlt
   have hc := rlay_any bx.drew (p + k) (by omega) ((S[k]'hkS).toNat : Int) (by omega) (by have := (S[k]'hkS).toNat_lt; omega)
   rw [← byteAt_get S k hkS] at hc
   simp only [laidS_step] at hc
   rw [byteAt_get S k hkS, Int.natCast_add] at hc
   have HC := hid hc
   have hb1' : IntKind.u32.wrap ((p : Int) + (k : Int)) = (p : Int) + (k : Int) := by rw [IntKind.wrap_u32]; omega
   have HMX := hid (mx.trans (RMoves.of_below v ((Below.refl _ _).drew)))
   clear bx mx HX hc
   go_wp2_with fail
   go_still_tail 11, (by kernel_rfl)
   change wpList _ _ _ _ _ wr.drew
   generalize wr.drew = w3 at HC HMX d6 ⊢
   go_wp2_with (go_at_call 89; refine HC.out.mono ?_; rintro e w4 ⟨rfl, b4, m4⟩)
   go_roundw
   case rel => exact ⟨k + 1, by omega, by go_num, hid ⟨b4, HMX.out.trans m4⟩⟩
   case measure => simp [intOf]; omega
  ·obtain rfl : k = 1024 := by omega
   go_wp2_with fail
   go_ret
   exact ⟨rfl, HX.out⟩
end
end Go.Proofs.YtgcknekhimpfkaaGreatDoor
