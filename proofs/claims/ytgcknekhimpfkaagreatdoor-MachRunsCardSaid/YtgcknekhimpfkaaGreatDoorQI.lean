/- Two instructions held against each other; a bool as a bit. -/
import Derived.Test.YtgcknekhimpfkaaGreatDoorQC
import Derived.Test.YtgcknekhimpfkaaGreatDoorQP
import Derived.WalkSmall
import Derived.Deep.QuietTactic
import Derived.BigQuiet
import Derived.Test.YtgcknekhimpfkaaGreatDoorProg
import Derived.WalkKit
import Derived.ProofKit
import Derived.Handy
import Derived.Lib.Hide
import Derived.OwnWalk
import Derived.Below
import Derived.WalkSpells
import Derived.Deep.DeepCutAuto
import Derived.DeepKeys
namespace Go.Proofs.YtgcknekhimpfkaaGreatDoor
open Go Go.RowKit Go.Lib Go.Proofs.YtgcknekhimpfkaaGreatDoor.Pl
set_option linter.unusedVariables false
set_option linter.unusedSimpArgs false
def insEq (f f' : Int) (u u' v v' : Bool) (a a' b b' op op' c c' n n' : Int) : Bool := decide (f = f' ∧ u = u' ∧ v = v' ∧ a = a' ∧ b = b' ∧ op = op' ∧ c = c' ∧ n = n')
theorem insEq_run (f f' : Int) (u u' v v' : Bool) (a a' b b' op op' c c' n n' : Int) (w : World) :
 (Op.equalIn 10000 92 (.agg #[.int .i64 f, .bool u, .bool v, .int .i64 a, .int .i64 b, .int .i64 op, .int .i64 c, .int .i64 n]) (.agg #[.int .i64 f', .bool u', .bool v', .int .i64 a', .int .i64 b', .int .i64 op', .int .i64 c', .int .i64 n'])).run Tryz.prog w = .ok (insEq f f' u u' v v' a a' b b' op op' c c' n n') w := by
 simp [go_sem, Tryz.underlying92]
 unfold insEq
 repeat' split
 all_goals simp_all
theorem run_eql_ins (f f' : Int) (u u' v v' : Bool) (a a' b b' op op' c c' n n' : Int) (w : World) :
 (binOp .eql 92 (.agg #[.int .i64 f, .bool u, .bool v, .int .i64 a, .int .i64 b, .int .i64 op, .int .i64 c, .int .i64 n]) (.agg #[.int .i64 f', .bool u', .bool v', .int .i64 a', .int .i64 b', .int .i64 op', .int .i64 c', .int .i64 n'])).run Tryz.prog w = .ok (.bool (insEq f f' u u' v v' a a' b b' op op' c c' n n')) w := by
 rw [run_eql_struct, insEq_run]
 rfl
theorem insEq_self (f : Int) (u v : Bool) (a b op c n : Int) : insEq f f u u v v a a b b op op c c n n = true := by simp [insEq]
def flagV (b : Bool) (k : Int) : Int := cr b * 2 ^ k.toNat
theorem flag_nat (b : Bool) (k : Nat) (hk : k ≤ 31) (w : World) :
 Calls Tryz.prog 57 #[.bool b, .int .i64 k] w fun e w' => e = .returned (.int .u32 (flagV b k)) ∧ w' = w := by
 have hp : (2 : Int) ^ k % 4294967296 = 2 ^ k := Int.emod_eq_of_lt (Int.le_of_lt (Int.pow_pos (by decide))) (by
  have : (2 : Int) ^ k ≤ 2 ^ 31 := by
   have := Nat.pow_le_pow_right (n := 2) (by decide) hk
   exact_mod_cast this
  omega)
 cases b
 ·have H : Hid (flagV false k = 0) := (by simp [flagV, cr] : flagV false k = 0)
  clear hp
  go_enter Tryz.func57, Tryz.ntmps57
  go_wp2_with fail
  go_ret
  exact ⟨by rw [H.out]; rfl, rfl⟩
 ·have H : Hid (flagV true k = 2 ^ k % 4294967296) := (by rw [hp]; simp [flagV, cr] : flagV true k = 2 ^ k % 4294967296)
  clear hp
  go_enter Tryz.func57, Tryz.ntmps57
  go_wp2_with fail
  go_ret
  exact ⟨by rw [H.out]; rfl, rfl⟩
theorem flag_any (b : Bool) (k : Int) (h0 : 0 ≤ k) (h1 : k ≤ 31) (w : World) :
 Calls Tryz.prog 57 #[.bool b, .int .i64 k] w fun e w' => e = .returned (.int .u32 (flagV b k)) ∧ w' = w := by
 obtain ⟨m, rfl⟩ := Int.eq_ofNat_of_zero_le h0
 exact flag_nat b m (by omega) w
theorem flagV_bd (b : Bool) (k : Nat) : flagV b k = cr b * 2 ^ k := by simp [flagV]
/-- What is right. -/
theorem reck_inv {f : Int} {u v : Bool} {a b op c : Int} (h : reckB f u v a b op c = true) : 0 ≤ op ∧ op ≤ 15 := by
 unfold reckB at h
 by_cases g : op < 0 ∨ 11 < op ∧ op ≠ 15
 ·rw [if_pos g] at h; cases h
 ·omega
theorem right_inv {f : Int} {u v : Bool} {a b op c n : Int} (h : rightB f u v a b op c n = true) :
 (0 ≤ a ∧ a ≤ 15) ∧ (0 ≤ b ∧ b ≤ 15) ∧ (0 ≤ c ∧ c ≤ 15) ∧ (0 ≤ op ∧ op ≤ 15) ∧
  (f = 0 ∧ n = 0 ∧ reckB 0 u v a b op c = true ∨ f = 1 ∧ c = 0 ∧ (0 ≤ n ∧ n ≤ 65535) ∧ reckB 1 u v a b op c = true ∨ f = 2 ∧ c = 0 ∧ op = 0 ∧ (-524288 ≤ n ∧ n ≤ 524287) ∨ f = 3 ∧ b = 0 ∧ op = 0 ∧ (u = true ∧ c = 0 ∧ (-8388608 ≤ n ∧ n ≤ 8388607) ∨ u = false ∧ n = 0)) := by
 unfold rightB at h
 by_cases g : reg a && reg b && reg c
 ·rw [g] at h
  simp only [Bool.not_true, Bool.false_eq_true, if_false] at h
  unfold reg at g
  simp only [Bool.and_eq_true, decide_eq_true_eq] at g
  by_cases h0 : f = 0
  ·subst h0
   simp only [if_true, Bool.and_eq_true, decide_eq_true_eq] at h
   have := reck_inv h.2
   exact ⟨g.1.1, g.1.2, g.2, this, .inl ⟨rfl, h.1, h.2⟩⟩
  by_cases h1 : f = 1
  ·subst h1
   simp only [if_neg h0, if_true, Bool.and_eq_true, decide_eq_true_eq] at h
   have := reck_inv h.2
   exact ⟨g.1.1, g.1.2, g.2, this, .inr (.inl ⟨rfl, h.1.1, h.1.2, h.2⟩)⟩
  by_cases h2 : f = 2
  ·subst h2
   simp only [if_neg h0, if_neg h1, if_true, Bool.and_eq_true, decide_eq_true_eq] at h
   exact ⟨g.1.1, g.1.2, g.2, by omega, .inr (.inr (.inl ⟨rfl, h.1.1, h.1.2, h.2⟩))⟩
  by_cases h3 : f = 3
  ·subst h3
   simp only [if_neg h0, if_neg h1, if_neg h2, if_true, Bool.and_eq_true, decide_eq_true_eq] at h
   refine ⟨g.1.1, g.1.2, g.2, by omega, .inr (.inr (.inr ⟨rfl, h.1.1, h.1.2, ?_⟩))⟩
   cases u
   ·simp only [Bool.false_eq_true, if_false, decide_eq_true_eq] at h
    exact .inr ⟨rfl, h.2⟩
   ·simp only [if_true, Bool.and_eq_true, decide_eq_true_eq] at h
    exact .inl ⟨rfl, h.2⟩
  ·simp only [if_neg h0, if_neg h1, if_neg h2, if_neg h3] at h
   cases h
 ·rw [Bool.eq_false_iff.2 g] at h
  simp at h
/-- The word of an instruction that is right. -/
def encN (f n : Int) : Int := if f = 1 then n else if f = 2 then n % 1048576 else if f = 3 then n % 16777216 else 0
def encW (f : Int) (u v : Bool) (a b op c n : Int) : Int := f * 1073741824 + cr u * 536870912 + cr v * 268435456 + a * 16777216 + b * 1048576 + op * 65536 + c + encN f n
theorem or_low (y x : Int) (i : Nat) (hx : 0 ≤ x) (hx' : x < 4294967296) (hxi : x < 2 ^ i) (hy : 0 ≤ y) (hy' : y < 4294967296) (hyi : y % 2 ^ i = 0) : bits .or .u32 y x = y + x := by
 have h := or_join x y i hx hx' hxi hy hy' hyi
 rw [u32_or _ _ hy hy' hx hx', Nat.or_comm]
 rw [u32_or _ _ hx hx' hy hy'] at h
 rw [h]; omega
theorem and_low (n : Int) (k : Nat) (hk : k ≤ 32) : bits .and .u32 (n % 4294967296) (2 ^ k - 1) = n % 2 ^ k := by
 have hb := p2_bd k hk
 have h0 : 0 ≤ n % 4294967296 := by omega
 have h1 : n % 4294967296 < 4294967296 := by omega
 rw [u32_and _ _ h0 h1 (by omega) (by omega)]
 obtain ⟨m, hm⟩ := Int.eq_ofNat_of_zero_le h0
 rw [hm, show ((2 : Int) ^ k - 1).toNat = 2 ^ k - 1 from by
  have : ((2 ^ k : Nat) : Int) = (2 : Int) ^ k := by exact_mod_cast rfl
  omega, Int.toNat_natCast, Nat.and_two_pow_sub_one_eq_mod]
 have e : (4294967296 : Int) = 2 ^ k * 2 ^ (32 - k) := (p2_32 k hk).symm
 have : n % 2 ^ k = (n % 4294967296) % 2 ^ k := by rw [e, Int.emod_emod_of_dvd n (Int.dvd_mul_right _ _)]
 rw [this, hm]
 exact_mod_cast rfl
theorem enc_or (F : Int) (u v : Bool) (a b op c : Int) (hF : F = 0 ∨ F = 1073741824 ∨ F = 2147483648 ∨ F = 3221225472) (ha : 0 ≤ a ∧ a ≤ 15) (hb : 0 ≤ b ∧ b ≤ 15) (hc : 0 ≤ c ∧ c ≤ 15) (ho : 0 ≤ op ∧ op ≤ 15) :
 bits .or .u32 (bits .or .u32 (bits .or .u32 (bits .or .u32 (bits .or .u32 (bits .or .u32 F (flagV u 29)) (flagV v 28)) (a % 4294967296 * 16777216 % 4294967296)) (b % 4294967296 * 1048576 % 4294967296)) (op % 4294967296 * 65536 % 4294967296)) (c % 4294967296)
  = F + cr u * 536870912 + cr v * 268435456 + a * 16777216 + b * 1048576 + op * 65536 + c := by
 have e1 : flagV u 29 = cr u * 536870912 := flagV_bd u 29
 have e2 : flagV v 28 = cr v * 268435456 := flagV_bd v 28
 have hu := cr_bd u
 have hv := cr_bd v
 rw [e1, e2, show a % 4294967296 * 16777216 % 4294967296 = a * 16777216 from by omega, show b % 4294967296 * 1048576 % 4294967296 = b * 1048576 from by omega, show op % 4294967296 * 65536 % 4294967296 = op * 65536 from by omega, show c % 4294967296 = c from by omega]
 generalize cr u = U at *
 generalize cr v = V at *
 rw [or_low F (U * 536870912) 30 (by omega) (by omega) (by simp; omega) (by omega) (by omega) (by simp; omega),
  or_low _ (V * 268435456) 29 (by omega) (by omega) (by simp; omega) (by omega) (by omega) (by simp; omega),
  or_low _ (a * 16777216) 28 (by omega) (by omega) (by simp; omega) (by omega) (by omega) (by simp; omega),
  or_low _ (b * 1048576) 24 (by omega) (by omega) (by simp; omega) (by omega) (by omega) (by simp; omega),
  or_low _ (op * 65536) 20 (by omega) (by omega) (by simp; omega) (by omega) (by omega) (by simp; omega),
  or_low _ c 16 (by omega) (by omega) (by simp; omega) (by omega) (by omega) (by simp; omega)]
theorem enc_or0 (u v : Bool) (a b op c n : Int) (h : rightB 0 u v a b op c n = true) :
 bits .or .u32 (bits .or .u32 (bits .or .u32 (bits .or .u32 (bits .or .u32 (bits .or .u32 0 (flagV u 29)) (flagV v 28)) (a % 4294967296 * 16777216 % 4294967296)) (b % 4294967296 * 1048576 % 4294967296)) (op % 4294967296 * 65536 % 4294967296)) (c % 4294967296) = encW 0 u v a b op c n := by
 obtain ⟨ha, hb, hc, ho, hf⟩ := right_inv h
 rw [enc_or 0 u v a b op c (by omega) ha hb hc ho]
 simp [encW, encN]
theorem enc_or1 (u v : Bool) (a b op c n : Int) (h : rightB 1 u v a b op c n = true) :
 bits .or .u32 (bits .or .u32 (bits .or .u32 (bits .or .u32 (bits .or .u32 (bits .or .u32 (bits .or .u32 1073741824 (flagV u 29)) (flagV v 28)) (a % 4294967296 * 16777216 % 4294967296)) (b % 4294967296 * 1048576 % 4294967296)) (op % 4294967296 * 65536 % 4294967296)) (c % 4294967296)) (n % 4294967296) = encW 1 u v a b op c n := by
 obtain ⟨ha, hb, hc, ho, hf⟩ := right_inv h
 have hu := cr_bd u
 have hv := cr_bd v
 rw [enc_or 1073741824 u v a b op c (by omega) ha hb hc ho]
 unfold encW encN
 rw [or_low _ (n % 4294967296) 16 (by omega) (by omega) (by simp; omega) (by omega) (by omega) (by simp; omega)]
 simp
 omega
theorem enc_or2 (u v : Bool) (a b op c n : Int) (h : rightB 2 u v a b op c n = true) :
 bits .or .u32 (bits .or .u32 (bits .or .u32 (bits .or .u32 (bits .or .u32 (bits .or .u32 (bits .or .u32 2147483648 (flagV u 29)) (flagV v 28)) (a % 4294967296 * 16777216 % 4294967296)) (b % 4294967296 * 1048576 % 4294967296)) (op % 4294967296 * 65536 % 4294967296)) (c % 4294967296)) (bits .and .u32 (n % 4294967296) 1048575) = encW 2 u v a b op c n := by
 obtain ⟨ha, hb, hc, ho, hf⟩ := right_inv h
 have hu := cr_bd u
 have hv := cr_bd v
 rw [enc_or 2147483648 u v a b op c (by omega) ha hb hc ho, show bits .and .u32 (n % 4294967296) 1048575 = n % 1048576 from and_low n 20 (by omega)]
 unfold encW encN
 rw [or_low _ (n % 1048576) 20 (by omega) (by omega) (by simp; omega) (by omega) (by omega) (by simp; omega)]
 simp
theorem enc_or3 (u v : Bool) (a b op c n : Int) (h : rightB 3 u v a b op c n = true) :
 bits .or .u32 (bits .or .u32 (bits .or .u32 (bits .or .u32 (bits .or .u32 (bits .or .u32 (bits .or .u32 3221225472 (flagV u 29)) (flagV v 28)) (a % 4294967296 * 16777216 % 4294967296)) (b % 4294967296 * 1048576 % 4294967296)) (op % 4294967296 * 65536 % 4294967296)) (c % 4294967296)) (bits .and .u32 (n % 4294967296) 16777215) = encW 3 u v a b op c n := by
 obtain ⟨ha, hb, hc, ho, hf⟩ := right_inv h
 have hu := cr_bd u
 have hv := cr_bd v
 rw [enc_or 3221225472 u v a b op c (by omega) ha hb hc ho, show bits .and .u32 (n % 4294967296) 16777215 = n % 16777216 from and_low n 24 (by omega)]
 rcases hf with ⟨h, _⟩ | ⟨h, _⟩ | ⟨h, _⟩ | ⟨_, h1, h2, h3⟩
 ·omega
 ·omega
 ·omega
 subst h1 h2
 unfold encW encN
 simp only [Int.reduceMul, Int.zero_mul, Int.add_zero]
 rcases h3 with ⟨h3, h4, _⟩ | ⟨_, h4⟩
 ·rw [or_low _ (n % 16777216) 24 (by omega) (by omega) (by simp; omega) (by omega) (by omega) (by simp; omega)]
  simp
 ·subst h4
  rw [or_low _ _ 0 (by simp) (by simp) (by simp) (by omega) (by omega) (by simp)]
  simp
theorem bel1 {w w1 : World} {o : Obj} (h : Below (w.alloc o).heap.size (w.alloc o) w1) : Below w.heap.size w w1 :=
 Below.trans ((Below.refl _ _).alloc (Nat.le_refl _) _) (h.mono (by simp))
theorem bel2 {w w1 : World} {o p : Obj} (h : Below ((w.alloc o).alloc p).heap.size ((w.alloc o).alloc p) w1) : Below w.heap.size w w1 :=
 Below.trans (((Below.refl _ _).alloc (Nat.le_refl _) _).alloc (by simp) _) (h.mono (by simp; omega))
theorem belSet {B : Nat} {a w : World} (h : Below B a w) (o : Nat) (v : Value) : Below B a (w.setCell ⟨B, o, none⟩ v) := h.setCell (Nat.le_refl _) v
theorem belN {B : Nat} {w w1 : World} (h : Below B w w1) (n : Nat) : Below B w (w1.drewN n) := h.trans ⟨rfl, rfl, rfl, Nat.le_refl _, fun _ _ => rfl⟩
theorem bcell {W w1 : World} (hb : Below W.heap.size W w1) : (∀ b o, b < W.heap.size → w1.cell? ⟨b, o, none⟩ = W.cell? ⟨b, o, none⟩) ∧ (∀ b o, b < W.heap.size → w1.frozen? ⟨b, o, none⟩ = W.frozen? ⟨b, o, none⟩) :=
 ⟨fun b o h => hb.cell (p := ⟨b, o, none⟩) h, fun b o h => hb.frozen (p := ⟨b, o, none⟩) h⟩
attribute [local go_sem ↓] run_eql_ins
theorem tup_ui {k k' : IntKind} {x y a c : Int} (h : x = a) (g : y = c) : Ending.returned (.tuple #[.int k x, .int k' y]) = Ending.returned (.tuple #[.int k a, .int k' c]) := by rw [h, g]
theorem enc_0 (u v : Bool) (a b op c n : Int) (hz : insEq 0 0 u false v false a 0 b 0 op 0 c 0 n 0 = false) (hr : rightB 0 u v a b op c n = true) (w : World) (hT : Tab w) :
 Calls Tryz.prog 52 #[ins 0 u v a b op c n] w fun e w' => e = .returned (.tuple #[.int .u32 (encW 0 u v a b op c n), .int .i64 0]) ∧ Below w.heap.size w w' := by
 have HT : Hid (Tab (w.alloc (.cells #[.int .i64 0, .bool u, .bool v, .int .i64 a, .int .i64 b, .int .i64 op, .int .i64 c, .int .i64 n] 92 (0, 0)))) := hT.below ((Below.refl w.heap.size w).alloc (Nat.le_refl _) _) hT.lt
 have HE := hid (enc_or0 u v a b op c n hr)
 unfold ins
 go_enter Tryz.func52, Tryz.ntmps52
 go_wp2_with (go_at_call 53; go_must (refine (right_any _ _ _ _ _ _ _ _ _ HT.out).mono ?_); rintro e w1 ⟨rfl, hb1⟩; have hi := fun j => hb1.cell (p := ⟨w.heap.size, j, none⟩) (by simp))
 go_big_quiet ((go_at_call 57; exact Calls.quiet_of_same (flag_any _ _ (by omega) (by omega) _)))
 go_wp2_with fail
 go_ret2
 exact ⟨tup_ui HE.out rfl, by first | exact belN (bel1 hb1) _ | exact bel1 hb1⟩
theorem enc_1 (u v : Bool) (a b op c n : Int) (hz : insEq 1 0 u false v false a 0 b 0 op 0 c 0 n 0 = false) (hr : rightB 1 u v a b op c n = true) (w : World) (hT : Tab w) :
 Calls Tryz.prog 52 #[ins 1 u v a b op c n] w fun e w' => e = .returned (.tuple #[.int .u32 (encW 1 u v a b op c n), .int .i64 0]) ∧ Below w.heap.size w w' := by
 have HT : Hid (Tab (w.alloc (.cells #[.int .i64 1, .bool u, .bool v, .int .i64 a, .int .i64 b, .int .i64 op, .int .i64 c, .int .i64 n] 92 (0, 0)))) := hT.below ((Below.refl w.heap.size w).alloc (Nat.le_refl _) _) hT.lt
 have HE := hid (enc_or1 u v a b op c n hr)
 unfold ins
 go_enter Tryz.func52, Tryz.ntmps52
 go_wp2_with (go_at_call 53; go_must (refine (right_any _ _ _ _ _ _ _ _ _ HT.out).mono ?_); rintro e w1 ⟨rfl, hb1⟩; have hi := fun j => hb1.cell (p := ⟨w.heap.size, j, none⟩) (by simp))
 go_big_quiet ((go_at_call 57; exact Calls.quiet_of_same (flag_any _ _ (by omega) (by omega) _)))
 go_wp2_with fail
 go_ret2
 exact ⟨tup_ui HE.out rfl, by first | exact belN (bel1 hb1) _ | exact bel1 hb1⟩
theorem enc_2 (u v : Bool) (a b op c n : Int) (hz : insEq 2 0 u false v false a 0 b 0 op 0 c 0 n 0 = false) (hr : rightB 2 u v a b op c n = true) (w : World) (hT : Tab w) :
 Calls Tryz.prog 52 #[ins 2 u v a b op c n] w fun e w' => e = .returned (.tuple #[.int .u32 (encW 2 u v a b op c n), .int .i64 0]) ∧ Below w.heap.size w w' := by
 have HT : Hid (Tab (w.alloc (.cells #[.int .i64 2, .bool u, .bool v, .int .i64 a, .int .i64 b, .int .i64 op, .int .i64 c, .int .i64 n] 92 (0, 0)))) := hT.below ((Below.refl w.heap.size w).alloc (Nat.le_refl _) _) hT.lt
 have HE := hid (enc_or2 u v a b op c n hr)
 unfold ins
 go_enter Tryz.func52, Tryz.ntmps52
 go_wp2_with (go_at_call 53; go_must (refine (right_any _ _ _ _ _ _ _ _ _ HT.out).mono ?_); rintro e w1 ⟨rfl, hb1⟩; have hi := fun j => hb1.cell (p := ⟨w.heap.size, j, none⟩) (by simp))
 go_big_quiet ((go_at_call 57; exact Calls.quiet_of_same (flag_any _ _ (by omega) (by omega) _)))
 go_wp2_with fail
 go_ret2
 exact ⟨tup_ui HE.out rfl, by first | exact belN (bel1 hb1) _ | exact bel1 hb1⟩
theorem enc_3 (u v : Bool) (a b op c n : Int) (hz : insEq 3 0 u false v false a 0 b 0 op 0 c 0 n 0 = false) (hr : rightB 3 u v a b op c n = true) (w : World) (hT : Tab w) :
 Calls Tryz.prog 52 #[ins 3 u v a b op c n] w fun e w' => e = .returned (.tuple #[.int .u32 (encW 3 u v a b op c n), .int .i64 0]) ∧ Below w.heap.size w w' := by
 have HT : Hid (Tab (w.alloc (.cells #[.int .i64 3, .bool u, .bool v, .int .i64 a, .int .i64 b, .int .i64 op, .int .i64 c, .int .i64 n] 92 (0, 0)))) := hT.below ((Below.refl w.heap.size w).alloc (Nat.le_refl _) _) hT.lt
 have HE := hid (enc_or3 u v a b op c n hr)
 unfold ins
 go_enter Tryz.func52, Tryz.ntmps52
 go_wp2_with (go_at_call 53; go_must (refine (right_any _ _ _ _ _ _ _ _ _ HT.out).mono ?_); rintro e w1 ⟨rfl, hb1⟩; have hi := fun j => hb1.cell (p := ⟨w.heap.size, j, none⟩) (by simp))
 go_big_quiet ((go_at_call 57; exact Calls.quiet_of_same (flag_any _ _ (by omega) (by omega) _)))
 go_wp2_with fail
 go_ret2
 exact ⟨tup_ui HE.out rfl, by first | exact belN (bel1 hb1) _ | exact bel1 hb1⟩
theorem enc_z (w : World) :
 Calls Tryz.prog 52 #[ins 0 false false 0 0 0 0 0] w fun e w' => e = .returned (.tuple #[.int .u32 0, .int .i64 0]) ∧ Below w.heap.size w w' := by
 have hz := insEq_self 0 false false 0 0 0 0 0
 unfold ins
 go_enter Tryz.func52, Tryz.ntmps52
 go_wp2_with fail
 go_ret2
 exact ⟨rfl, (Below.refl _ _).alloc (Nat.le_refl _) _⟩
theorem enc_no (f : Int) (u v : Bool) (a b op c n : Int) (hz : insEq f 0 u false v false a 0 b 0 op 0 c 0 n 0 = false) (hr : rightB f u v a b op c n = false) (w : World) (hT : Tab w) :
 Calls Tryz.prog 52 #[ins f u v a b op c n] w fun e w' => e = .returned (.tuple #[.int .u32 0, .int .i64 20]) ∧ Below w.heap.size w w' := by
 have HT : Hid (Tab (w.alloc (.cells #[.int .i64 f, .bool u, .bool v, .int .i64 a, .int .i64 b, .int .i64 op, .int .i64 c, .int .i64 n] 92 (0, 0)))) := hT.below ((Below.refl w.heap.size w).alloc (Nat.le_refl _) _) hT.lt
 unfold ins
 go_enter Tryz.func52, Tryz.ntmps52
 go_wp2_with (go_at_call 53; go_must (refine (right_any _ _ _ _ _ _ _ _ _ HT.out).mono ?_); rintro e w1 ⟨rfl, hb1⟩; have hi := fun j => hb1.cell (p := ⟨w.heap.size, j, none⟩) (by simp))
 go_ret2
 exact ⟨rfl, by first | exact belN (bel1 hb1) _ | exact bel1 hb1⟩
def encR (f : Int) (u v : Bool) (a b op c n : Int) : Int := if rightB f u v a b op c n then encW f u v a b op c n else 0
def encE (f : Int) (u v : Bool) (a b op c n : Int) : Int := if rightB f u v a b op c n then 0 else 20
theorem enc_any (f : Int) (u v : Bool) (a b op c n : Int) (w : World) (hT : Tab w) :
 Calls Tryz.prog 52 #[ins f u v a b op c n] w fun e w' => e = .returned (.tuple #[.int .u32 (encR f u v a b op c n), .int .i64 (encE f u v a b op c n)]) ∧ Below w.heap.size w w' := by
 cases hz : insEq f 0 u false v false a 0 b 0 op 0 c 0 n 0
 ·cases hr : rightB f u v a b op c n
  ·rw [show encR f u v a b op c n = 0 from by unfold encR; rw [hr]; rfl, show encE f u v a b op c n = 20 from by unfold encE; rw [hr]; rfl]
   exact enc_no f u v a b op c n hz hr w hT
  ·rw [show encR f u v a b op c n = encW f u v a b op c n from by unfold encR; rw [hr]; rfl, show encE f u v a b op c n = 0 from by unfold encE; rw [hr]; rfl]
   obtain ⟨_, _, _, _, hf⟩ := right_inv hr
   rcases hf with ⟨rfl, _⟩ | ⟨rfl, _⟩ | ⟨rfl, _⟩ | ⟨rfl, _⟩
   ·exact enc_0 u v a b op c n hz hr w hT
   ·exact enc_1 u v a b op c n hz hr w hT
   ·exact enc_2 u v a b op c n hz hr w hT
   ·exact enc_3 u v a b op c n hz hr w hT
 ·unfold insEq at hz
  obtain ⟨rfl, rfl, rfl, rfl, rfl, rfl, rfl, rfl⟩ := of_decide_eq_true hz
  exact enc_z w
end Go.Proofs.YtgcknekhimpfkaaGreatDoor
namespace Go.Proofs.YtgcknekhimpfkaaGreatDoor
open Go.RowKit Pl
set_option linter.unusedVariables false
theorem bit_any (b : Bool) (w : World) : Calls Tryz.prog 82 #[.bool b] w fun e w' => e = .returned (.int .u32 (cr b)) ∧ w = w' := by
 cases b <;> (go_enter Tryz.func82, Tryz.ntmps82; go_wp2; go_ret; exact ⟨rfl, rfl⟩)
theorem add32_any (a b c : Int) (ha : 0 ≤ a) (ha' : a < 4294967296) (hb : 0 ≤ b) (hb' : b < 4294967296) (hc : 0 ≤ c) (hc' : c < 4294967296) (w : World) :
 Calls Tryz.prog 81 #[.int .u32 a, .int .u32 b, .int .u32 c] w fun e w' => e = .returned (.tuple #[.int .u32 ((a + b + c) % 4294967296), .int .u32 ((a + b + c) / 4294967296)]) ∧ w = w' := by
 go_enter Tryz.func81, Tryz.ntmps81
 go_wp2
 go_ret2
 exact ⟨rfl, rfl⟩
theorem sub32_any (a b c : Int) (ha : 0 ≤ a) (ha' : a < 4294967296) (hb : 0 ≤ b) (hb' : b < 4294967296) (hc : 0 ≤ c) (hc' : c ≤ 1) (w : World) :
 Calls Tryz.prog 83 #[.int .u32 a, .int .u32 b, .int .u32 c] w fun e w' => e = .returned (.tuple #[.int .u32 ((a - b - c) % 4294967296), .int .u32 (cr (decide (a - b - c < 0)))]) ∧ w = w' := by
 go_enter Tryz.func83, Tryz.ntmps83
 go_wp2
 go_ret2
 refine ⟨?_, rfl⟩
 rw [← borrow a b c ha ha' hb hb' hc hc']
 rfl
theorem add_any (a b : Int) (c : Bool) (ha : 0 ≤ a) (ha' : a < 4294967296) (hb : 0 ≤ b) (hb' : b < 4294967296) (w : World) :
 Calls Tryz.prog 61 #[.int .u32 a, .int .u32 b, .bool c] w fun e w' => e = .returned (.tuple #[.int .u32 (addS a b c), .bool (addC a b c), .bool (addV a b c)]) ∧ w = w' := by
 have hcr := cr_bd c
 go_enter Tryz.func61, Tryz.ntmps61
 go_wp2_with fail
 refine (bit_any c _).mono ?_
 rintro e w' ⟨rfl, rfl⟩
 go_wp2_with fail
 refine (add32_any a b (cr c) ha ha' hb hb' hcr.1 (by omega) _).mono ?_
 rintro e w' ⟨rfl, rfl⟩
 go_wp2_with fail
 go_ret3
 refine ⟨?_, rfl⟩
 rw [← over_add a b c ha ha' hb hb', ← carry_add a b c ha ha' hb hb']
 rfl
theorem sub_any (a b : Int) (c : Bool) (ha : 0 ≤ a) (ha' : a < 4294967296) (hb : 0 ≤ b) (hb' : b < 4294967296) (w : World) :
 Calls Tryz.prog 62 #[.int .u32 a, .int .u32 b, .bool c] w fun e w' => e = .returned (.tuple #[.int .u32 (subS a b c), .bool (subC a b c), .bool (subV a b c)]) ∧ w = w' := by
 have hcr := cr_bd c
 go_enter Tryz.func62, Tryz.ntmps62
 go_wp2_with fail
 refine (bit_any c _).mono ?_
 rintro e w' ⟨rfl, rfl⟩
 go_wp2_with fail
 refine (sub32_any a b (cr c) ha ha' hb hb' hcr.1 hcr.2 _).mono ?_
 rintro e w' ⟨rfl, rfl⟩
 go_wp2_with fail
 go_ret3
 refine ⟨?_, rfl⟩
 rw [← over_sub a b c ha ha' hb hb', show subC a b c = (cr (decide (a - b - cr c < 0)) == 1) from (cr_one _).symm]
 rfl
theorem mul_u (a b : Int) (ha : 0 ≤ a) (ha' : a < 4294967296) (hb : 0 ≤ b) (hb' : b < 4294967296) (w : World) :
 Calls Tryz.prog 63 #[.int .u32 a, .int .u32 b, .bool true] w fun e w' => e = .returned (.tuple #[.int .u32 (mulL a b true), .int .u32 (mulH a b true)]) ∧ w = w' := by
 have hp := prod_bound a b ha (by omega) hb (by omega)
 go_enter Tryz.func63, Tryz.ntmps63
 go_wp2_with fail
 go_ret2
 exact ⟨tup2 (mulL_u a b) (mulH_u a b hp), rfl⟩
theorem mul_s (a b : Int) (ha : 0 ≤ a) (ha' : a < 4294967296) (hb : 0 ≤ b) (hb' : b < 4294967296) (w : World) :
 Calls Tryz.prog 63 #[.int .u32 a, .int .u32 b, .bool false] w fun e w' => e = .returned (.tuple #[.int .u32 (mulL a b false), .int .u32 (mulH a b false)]) ∧ w = w' := by
 have hp := prod_bound a b ha (by omega) hb (by omega)
 have hs := sprod_bound a b
 have h1 := wrap32_bd a
 have h2 := wrap32_bd b
 go_enter Tryz.func63, Tryz.ntmps63
 go_wp2_with fail
 go_ret2
 exact ⟨tup2 (mulL_s a b _ _ (wrap32_sg a ha ha') (wrap32_sg b hb hb')) (mulH_s a b _ _ (wrap32_sg a ha ha') (wrap32_sg b hb hb')), rfl⟩
theorem mul_any (a b : Int) (u : Bool) (ha : 0 ≤ a) (ha' : a < 4294967296) (hb : 0 ≤ b) (hb' : b < 4294967296) (w : World) :
 Calls Tryz.prog 63 #[.int .u32 a, .int .u32 b, .bool u] w fun e w' => e = .returned (.tuple #[.int .u32 (mulL a b u), .int .u32 (mulH a b u)]) ∧ w = w' := by
 cases u
 ·exact mul_s a b ha ha' hb hb' w
 ·exact mul_u a b ha ha' hb hb' w
theorem div_no (a b : Int) (ha : 0 ≤ a) (ha' : a < 4294967296) (hb : 0 ≤ b) (hb' : b < 4294967296) (h : sg b ≤ 0) (w : World) :
 Calls Tryz.prog 64 #[.int .u32 a, .int .u32 b] w fun e w' => e = .returned (.tuple #[.int .u32 (divQ a b), .int .u32 (divR a b), .bool (divOk b)]) ∧ ∃ n, w' = w.drewN n := by
 have hz : wrap32 b ≤ 0 := by rw [wrap32_sg b hb hb']; exact h
 have e1 : Hid (0 = divQ a b) := by unfold Hid divQ; rw [if_pos h]
 have e2 : Hid (0 = divR a b) := by unfold Hid divR; rw [if_pos h]
 have e3 : Hid (false = divOk b) := by unfold Hid divOk; rw [decide_eq_true h]; rfl
 clear h
 go_enter Tryz.func64, Tryz.ntmps64
 go_wp2_with fail
 go_ret3
 exact ⟨tup3 e1.out e2.out e3.out, 0, rfl⟩
theorem div_yes (a b : Int) (ha : 0 ≤ a) (ha' : a < 4294967296) (hb : 0 ≤ b) (hb' : b < 4294967296) (h : 0 < sg b) (w : World) :
 Calls Tryz.prog 64 #[.int .u32 a, .int .u32 b] w fun e w' => e = .returned (.tuple #[.int .u32 (divQ a b), .int .u32 (divR a b), .bool (divOk b)]) ∧ ∃ n, w' = w.drewN n := by
 have hz : 0 < wrap32 b := by rw [wrap32_sg b hb hb']; exact h
 have h1 := wrap32_bd a
 have h2 := wrap32_bd b
 clear h
 go_enter Tryz.func64, Tryz.ntmps64
 go_wp2_with fail
 go_quiet (fail)
 go_wp2_with fail
 ·have hr : (wrap32 a).tmod (wrap32 b) < 0 := by assumption
  go_ret3
  exact ⟨tup3 (divQ_neg a b _ _ (wrap32_sg a ha ha') (wrap32_sg b hb hb') hz hr) (divR_neg a b _ _ (wrap32_sg a ha ha') (wrap32_sg b hb hb') hz h2.2 hr) (divOk_yes b _ (wrap32_sg b hb hb') hz), _, rfl⟩
 ·have hr : 0 ≤ (wrap32 a).tmod (wrap32 b) := by assumption
  go_ret3
  exact ⟨tup3 (divQ_pos a b _ _ (wrap32_sg a ha ha') (wrap32_sg b hb hb') hz hr) (divR_pos a b _ _ (wrap32_sg a ha ha') (wrap32_sg b hb hb') hz h2.2 hr) (divOk_yes b _ (wrap32_sg b hb hb') hz), _, rfl⟩
theorem div_any (a b : Int) (ha : 0 ≤ a) (ha' : a < 4294967296) (hb : 0 ≤ b) (hb' : b < 4294967296) (w : World) :
 Calls Tryz.prog 64 #[.int .u32 a, .int .u32 b] w fun e w' => e = .returned (.tuple #[.int .u32 (divQ a b), .int .u32 (divR a b), .bool (divOk b)]) ∧ ∃ n, w' = w.drewN n := by
 by_cases h : sg b ≤ 0
 ·exact div_no a b ha ha' hb hb' h w
 ·exact div_yes a b ha ha' hb hb' (by omega) w
theorem lsl_any (a n : Int) (ha : 0 ≤ a) (ha' : a < 4294967296) (hn : 0 ≤ n) (hn' : n < 4294967296) (w : World) :
 Calls Tryz.prog 58 #[.int .u32 a, .int .u32 n] w fun e w' => e = .returned (.int .u32 (lslV a (n % 32).toNat)) ∧ w = w' := by
 go_enter Tryz.func58, Tryz.ntmps58
 go_wp2_with fail
 go_ret
 exact ⟨rfl, rfl⟩
theorem asr_any (a n : Int) (ha : 0 ≤ a) (ha' : a < 4294967296) (hn : 0 ≤ n) (hn' : n < 4294967296) (w : World) :
 Calls Tryz.prog 59 #[.int .u32 a, .int .u32 n] w fun e w' => e = .returned (.int .u32 (asrV a (n % 32).toNat)) ∧ w = w' := by
 have := wrap32_bd a
 go_enter Tryz.func59, Tryz.ntmps59
 go_wp2_with fail
 go_ret
 refine ⟨one1 ?_, rfl⟩
 unfold asrV
 rw [← wrap32_sg a ha ha']
theorem rotl_any (a k s : Int) (ha : 0 ≤ a) (ha' : a < 4294967296) (hs : 0 ≤ s) (hs' : s < 32) (h : Hid (bits .and .u64 (IntKind.u64.wrap k) 31 = s)) (w : World) :
 Calls Tryz.prog 80 #[.int .u32 a, .int .i64 k] w fun e w' => e = .returned (.int .u32 (bits .or .u32 (a * 2 ^ s.toNat % 4294967296) (a / 2 ^ (32 - s).toNat))) ∧ w = w' := by
 have h := h.out
 go_enter Tryz.func80, Tryz.ntmps80
 go_wp2_with fail
 go_ret
 exact ⟨rfl, rfl⟩
theorem ror_any (a n : Int) (ha : 0 ≤ a) (ha' : a < 4294967296) (hn : 0 ≤ n) (hn' : n < 4294967296) (w : World) :
 Calls Tryz.prog 60 #[.int .u32 a, .int .u32 n] w fun e w' => e = .returned (.int .u32 (rorV a (n % 32).toNat)) ∧ w = w' := by
 have hb : 0 ≤ n % 32 ∧ n % 32 < 32 := by omega
 have hfin : Hid (bits .or .u32 (a * 2 ^ ((32 - n % 32) % 32).toNat % 4294967296) (a / 2 ^ (32 - (32 - n % 32) % 32).toNat) = rorV a (n % 32).toNat) := by
  unfold Hid
  by_cases hz : n % 32 = 0
  ·rw [hz]
   have := ror_join a 32 (by omega) ha ha'
   rw [rorV_all a ha ha'] at this
   have h0 : rorV a 0 = a := rorV_zero a
   rw [show ((0 : Int)).toNat = 0 from rfl, h0]
   exact this
  ·have := ror_join a (n % 32).toNat (by omega) ha ha'
   rw [show ((32 - n % 32) % 32).toNat = 32 - (n % 32).toNat from by omega, show (32 - (32 - n % 32) % 32).toNat = (n % 32).toNat from by omega]
   exact this
 go_enter Tryz.func60, Tryz.ntmps60
 go_wp2_with fail
 refine (rotl_any a _ ((32 - n % 32) % 32) ha ha' (by omega) (by omega) (turn_at _ hb.1 hb.2) _).mono ?_
 rintro e w' ⟨rfl, rfl⟩
 rw [hfin.out]
 go_wp2_with fail
 go_ret
 exact ⟨rfl, rfl⟩
theorem sext_yes (a n : Int) (ha : 0 ≤ a) (ha' : a < 4294967296) (hn : 1 ≤ n) (hn' : n ≤ 32) (w : World) :
 Calls Tryz.prog 51 #[.int .u32 a, .int .i64 n] w fun e w' => e = .returned (.int .i64 (sextV a n.toNat)) ∧ w = w' := by
 go_enter Tryz.func51, Tryz.ntmps51
 go_wp2_with fail
 go_ret
 refine ⟨one1 ?_, rfl⟩
 rw [← sext_go a n.toNat (by omega) (by omega) ha, show 32 - n.toNat = (32 - n).toNat from by omega]
end Go.Proofs.YtgcknekhimpfkaaGreatDoor
namespace Go.Proofs.YtgcknekhimpfkaaGreatDoor
open Go Go.RowKit Go.Lib Go.Proofs.YtgcknekhimpfkaaGreatDoor.Pl
set_option linter.unusedVariables false
set_option linter.unusedSimpArgs false
theorem exec_load_cpu (ρ : Operand → Value) (dst : Option Tmp) (x : Operand) (ty' : TypeId) (pos : String) (after : Array Edge) (guard : Option (Nat × Bool)) :
 execOp ρ ⟨dst, .load 50 x, ty', pos, after, guard⟩ = (do pure (.value (← loadWhole 50 (ρ x)))) := rfl
theorem exec_store_cpu (ρ : Operand → Value) (dst : Option Tmp) (x y : Operand) (ty' : TypeId) (pos : String) (after : Array Edge) (guard : Option (Nat × Bool)) :
 execOp ρ ⟨dst, .store 50 x y, ty', pos, after, guard⟩ = (do storeWhole 50 (ρ x) (ρ y); pure .skip) := rfl
theorem load_cpu {w : World} {g : Nat} {cs : Array Value} {t : TypeId} (h : Blk w g cs t) (hs : cs.size = 22) : (loadWhole 50 (.pointer (some ⟨g, 0, none⟩))).run Tryz.prog w = .ok (.agg cs) w :=
 run_loadRow h _ _ Tryz.underlying50 rfl (by rw [hs]; kernel_rfl)
theorem store_cpu {w : World} {g : Nat} {old cs : Array Value} {t : TypeId} (h : Blk w g old t) (ho : old.size = 22) (hs : cs.size = 22) (h1 : OneRow cs) : (storeWhole 50 (.pointer (some ⟨g, 0, none⟩)) (.agg cs)).run Tryz.prog w = .ok () (w.setRow g cs) :=
 run_storeRow h _ (by rw [hs]; kernel_rfl) (ho.trans hs.symm) h1
theorem loadVar_cpu {w : World} {g : Nat} {cs : Array Value} {t : TypeId} (h : Blk w g cs t) (hs : cs.size = 22) : (loadVar 50 ⟨g, 0, none⟩).run Tryz.prog w = .ok (.agg cs) w :=
 run_loadVarRow h _ _ Tryz.underlying50 rfl (by rw [hs]; kernel_rfl)
theorem store_new {w : World} {Z cs : Array Value} {t : TypeId} (ho : Z.size = 22) (hs : cs.size = 22) (h1 : OneRow cs) : (storeWhole 50 (.pointer (some ⟨w.heap.size, 0, none⟩)) (.agg cs)).run Tryz.prog (w.alloc (.cells Z t)) = .ok () (w.alloc (.cells cs t)) := by
 have := store_cpu (Blk.new w Z t) ho hs h1
 rwa [alloc_setRow] at this
theorem store_new0 {w : World} {cs : Array Value} {t : TypeId} (hs : cs.size = 22) (h1 : OneRow cs) : (storeWhole 50 (.pointer (some ⟨w.heap.size, 0, none⟩)) (.agg cs)).run Tryz.prog (w.alloc (.cells #[.int .u32 0, .int .u32 0, .int .u32 0, .int .u32 0, .int .u32 0, .int .u32 0, .int .u32 0, .int .u32 0, .int .u32 0, .int .u32 0, .int .u32 0, .int .u32 0, .int .u32 0, .int .u32 0, .int .u32 0, .int .u32 0, .int .u32 0, .bool false, .bool false, .bool false, .bool false, .int .u32 0] t)) = .ok () (w.alloc (.cells cs t)) := store_new rfl hs h1
/-- A processor: its registers, H, its flags, PC. -/
structure CpuOk (cs : Array Value) : Prop where
 size : cs.size = 22
 one : OneRow cs
 reg : ∀ k, k < 16 → ∃ x, cs[k]? = some (.int .u32 x) ∧ 0 ≤ x ∧ x < 4294967296
 h : ∃ x, cs[16]? = some (.int .u32 x) ∧ 0 ≤ x ∧ x < 4294967296
 n : ∃ b, cs[17]? = some (.bool b)
 z : ∃ b, cs[18]? = some (.bool b)
 c : ∃ b, cs[19]? = some (.bool b)
 v : ∃ b, cs[20]? = some (.bool b)
 pc : ∃ x, cs[21]? = some (.int .u32 x) ∧ 0 ≤ x ∧ x < 4294967296
def zCpu : Array Value := #[.int .u32 0, .int .u32 0, .int .u32 0, .int .u32 0, .int .u32 0, .int .u32 0, .int .u32 0, .int .u32 0, .int .u32 0, .int .u32 0, .int .u32 0, .int .u32 0, .int .u32 0, .int .u32 0, .int .u32 0, .int .u32 0, .int .u32 0, .bool false, .bool false, .bool false, .bool false, .int .u32 0]
attribute [local go_sem ↓] exec_load_cpu exec_store_cpu
set_option maxRecDepth 100000 in
set_option maxHeartbeats 1000000 in
theorem exec_no (cs : Array Value) (hc : CpuOk cs) (f : Int) (u v : Bool) (a b op c n l : Int) (hr : rightB f u v a b op c n = false) (w : World) (hT : Tab w) :
 Calls Tryz.prog 38 #[.agg cs, ins f u v a b op c n, .int .u32 l] w fun e w' => e = .returned (.tuple #[.agg cs, .int .i64 0, .bool false]) ∧ Below w.heap.size w w' := by
 have HT := tabHid hT
 clear hT
 have HC := hid hc
 clear hc
 unfold ins
 go_enter Tryz.func38, Tryz.ntmps38
 go_wp2_with (go_at_call 53; refine (right_any _ _ _ _ _ _ _ _ _ (HT.out _ (by go_grown))).mono ?_; rintro e w1 ⟨rfl, hb1⟩; obtain ⟨h0, h1, h2, hs, hB⟩ := three hb1; have hl := load_cpu h0 HC.out.size; have hst := store_cpu h2 rfl HC.out.size HC.out.one; have hres := loadVar_cpu (h2.setRow cs) HC.out.size; have Hh2 := hid h2; have HB := hid hB; clear hb1 h0 h1 h2 hB)
 refine bodyPost_ret (v := .tuple #[.agg cs, .int .i64 0, .bool false]) ?_ rfl ⟨rfl, belRow HB.out (by omega) cs⟩
 simp [results, Tryz.results38, asAddr, hres]
end Go.Proofs.YtgcknekhimpfkaaGreatDoor
namespace Go.Proofs.YtgcknekhimpfkaaGreatDoor
open Go Go.RowKit Go.Lib Go.Proofs.YtgcknekhimpfkaaGreatDoor.Pl
set_option linter.unusedVariables false
set_option linter.unusedSimpArgs false
def rgV (cs : Array Value) (k : Nat) : Int := match cs[k]? with | some (.int _ x) => x | _ => 0
def flV (cs : Array Value) (k : Nat) : Bool := match cs[k]? with | some (.bool b) => b | _ => false
theorem CpuOk.rg {cs : Array Value} (h : CpuOk cs) {k : Nat} (hk : k < 16) : cs[k]? = some (.int .u32 (rgV cs k)) ∧ 0 ≤ rgV cs k ∧ rgV cs k < 4294967296 := by
 obtain ⟨x, hx, h0, h1⟩ := h.reg k hk
 have : rgV cs k = x := by unfold rgV; rw [hx]
 rw [this]; exact ⟨hx, h0, h1⟩
theorem CpuOk.hV {cs : Array Value} (h : CpuOk cs) : cs[16]? = some (.int .u32 (rgV cs 16)) ∧ 0 ≤ rgV cs 16 ∧ rgV cs 16 < 4294967296 := by
 obtain ⟨x, hx, h0, h1⟩ := h.h
 have : rgV cs 16 = x := by unfold rgV; rw [hx]
 rw [this]; exact ⟨hx, h0, h1⟩
theorem CpuOk.pcV {cs : Array Value} (h : CpuOk cs) : cs[21]? = some (.int .u32 (rgV cs 21)) ∧ 0 ≤ rgV cs 21 ∧ rgV cs 21 < 4294967296 := by
 obtain ⟨x, hx, h0, h1⟩ := h.pc
 have : rgV cs 21 = x := by unfold rgV; rw [hx]
 rw [this]; exact ⟨hx, h0, h1⟩
theorem CpuOk.nV {cs : Array Value} (h : CpuOk cs) : cs[17]? = some (.bool (flV cs 17)) := by
 obtain ⟨x, hx⟩ := h.n
 have : flV cs 17 = x := by unfold flV; rw [hx]
 rw [this]; exact hx
theorem CpuOk.zV {cs : Array Value} (h : CpuOk cs) : cs[18]? = some (.bool (flV cs 18)) := by
 obtain ⟨x, hx⟩ := h.z
 have : flV cs 18 = x := by unfold flV; rw [hx]
 rw [this]; exact hx
theorem CpuOk.cV {cs : Array Value} (h : CpuOk cs) : cs[19]? = some (.bool (flV cs 19)) := by
 obtain ⟨x, hx⟩ := h.c
 have : flV cs 19 = x := by unfold flV; rw [hx]
 rw [this]; exact hx
theorem CpuOk.vV {cs : Array Value} (h : CpuOk cs) : cs[20]? = some (.bool (flV cs 20)) := by
 obtain ⟨x, hx⟩ := h.v
 have : flV cs 20 = x := by unfold flV; rw [hx]
 rw [this]; exact hx
def nextV (cs : Array Value) : Int := (rgV cs 21 + 4) % 4294967296
def c21 (cs : Array Value) : Array Value := cs.setIfInBounds 21 (.int .u32 (nextV cs))
/-- A register gets a word; N and Z are set by it. -/
def fin (cs : Array Value) (a : Nat) (W : Int) : Array Value := ((cs.setIfInBounds a (.int .u32 W)).setIfInBounds 17 (.bool (decide (2147483648 ≤ W)))).setIfInBounds 18 (.bool (decide (W = 0)))
theorem at_some {cs : Array Value} {n k : Nat} (hs : cs.size = n) (hk : k < n) : ∃ x, cs[k]? = some x := ⟨cs[k]'(by omega), by simp [hs, hk]⟩
theorem c21_size {cs : Array Value} (h : cs.size = 22) : (c21 cs).size = 22 := by simp [c21, h]
theorem c21_one {cs : Array Value} (h : OneRow cs) : OneRow (c21 cs) := h.set _ rfl
def chain (W : World) (b a : Nat) (X : Int) (Y Z : Bool) : World := ((W.setCell ⟨b, a, none⟩ (.int .u32 X)).setCell ⟨b, 17, none⟩ (.bool Y)).setCell ⟨b, 18, none⟩ (.bool Z)
def finR (cs : Array Value) (a : Nat) (X : Int) (Y Z : Bool) : Array Value := ((cs.setIfInBounds a (.int .u32 X)).setIfInBounds 17 (.bool Y)).setIfInBounds 18 (.bool Z)
theorem finR_fin (cs : Array Value) (a : Nat) (W : Int) (h0 : 0 ≤ W) (h1 : W < 4294967296) : finR cs a W (W / 2147483648 != 0) (W == 0) = fin cs a W := by
 unfold finR fin
 rw [beq_dec, bne_dec, show decide (2147483648 ≤ W) = !decide (W / 2147483648 = 0) from by rw [← decide_not, decide_eq_decide]; omega]
theorem chain_blk {W : World} {b a : Nat} {cs : Array Value} {t : TypeId} (h : Blk W b cs t) (X : Int) (Y Z : Bool) : Blk (chain W b a X Y Z) b (finR cs a X Y Z) t := ((h.set _ _).set _ _).set _ _
theorem chain_far {W : World} {b a g : Nat} {cs : Array Value} {t : TypeId} (h : Blk W g cs t) (hg : g ≠ b) (X : Int) (Y Z : Bool) : Blk (chain W b a X Y Z) g cs t := ((h.far hg _).far hg _).far hg _
theorem finR_size {cs : Array Value} {a : Nat} {X : Int} {Y Z : Bool} (h : cs.size = 22) : (finR cs a X Y Z).size = 22 := by simp [finR, h]
theorem finR_one {cs : Array Value} {a : Nat} {X : Int} {Y Z : Bool} (h : OneRow cs) : OneRow (finR cs a X Y Z) := ((h.set _ rfl).set _ rfl).set _ rfl
theorem tailf {W : World} {b0 b2 : Nat} {ci old : Array Value} (h0 : Blk W b0 ci 50) (h2 : Blk W b2 old 50) (hn : b2 ≠ b0) (hs : ci.size = 22) (ho : old.size = 22) (h1 : OneRow ci) (a : Nat) (ha : a ≤ 15) :
 (∃ x, W.cell? ⟨b0, a, none⟩ = some x) ∧ (∃ x, W.cell? ⟨b0, 17, none⟩ = some x) ∧ (∃ x, W.cell? ⟨b0, 18, none⟩ = some x) ∧ (∀ o, W.frozen? ⟨b0, o, none⟩ = false) ∧
  (∀ X Y Z, (loadWhole 50 (.pointer (some ⟨b0, 0, none⟩))).run Tryz.prog (((W.setCell ⟨b0, a, none⟩ (.int .u32 X)).setCell ⟨b0, 17, none⟩ (.bool Y)).setCell ⟨b0, 18, none⟩ (.bool Z)) = .ok (.agg (finR ci a X Y Z)) (chain W b0 a X Y Z)) ∧
  (∀ X Y Z, (storeWhole 50 (.pointer (some ⟨b2, 0, none⟩)) (.agg (finR ci a X Y Z))).run Tryz.prog (chain W b0 a X Y Z) = .ok () ((chain W b0 a X Y Z).setRow b2 (finR ci a X Y Z))) ∧
  (∀ X Y Z, (loadVar 50 ⟨b2, 0, none⟩).run Tryz.prog ((chain W b0 a X Y Z).setRow b2 (finR ci a X Y Z)) = .ok (.agg (finR ci a X Y Z)) ((chain W b0 a X Y Z).setRow b2 (finR ci a X Y Z))) := by
 have e : ∀ k, k < 22 → ∃ x, W.cell? ⟨b0, k, none⟩ = some x := fun k hk => by
  obtain ⟨x, hx⟩ := at_some hs hk
  exact ⟨x, (h0.cell k).trans hx⟩
 refine ⟨e a (by omega), e 17 (by omega), e 18 (by omega), fun o => h0.frozen o, fun X Y Z => load_cpu (chain_blk h0 X Y Z) (finR_size hs), fun X Y Z => store_cpu (chain_far h2 hn X Y Z) ho (finR_size hs) (finR_one h1), fun X Y Z => loadVar_cpu ((chain_far h2 hn X Y Z).setRow _) (finR_size hs)⟩
theorem bel_chain {B : Nat} {w W : World} (h : Below B w W) (a : Nat) (X : Int) (Y Z : Bool) : Below B w (chain W B a X Y Z) := ((h.setCell (Nat.le_refl _) _).setCell (Nat.le_refl _) _).setCell (Nat.le_refl _) _
theorem exec_head {w w1 : World} {cs I old : Array Value} {t : TypeId} (h0 : Blk w1 w.heap.size cs t) (h1 : Blk w1 (w.heap.size + 1) I 92) (h2 : Blk w1 (w.heap.size + 1 + 1) old t) (hs : w.heap.size + 3 ≤ w1.heap.size) (hB : Below w.heap.size w w1) (x : Value) :
 let W := (w1.alloc (.cells cs t)).setCell ⟨w.heap.size, 21, none⟩ x
 Blk W w.heap.size (cs.setIfInBounds 21 x) t ∧ Blk W (w.heap.size + 1) I 92 ∧ Blk W (w.heap.size + 1 + 1) old t ∧ Blk W w1.heap.size cs t ∧ Below w.heap.size w W := by
 intro W
 refine ⟨(h0.old _).set _ _, (h1.old _).far (by simp) _, (h2.old _).far (by simp; omega) _, (Blk.new w1 cs t).far (by simp; omega) _, ?_⟩
 exact (hB.alloc (by omega) _).setCell (Nat.le_refl _) _
end Go.Proofs.YtgcknekhimpfkaaGreatDoor
namespace Go.Proofs.YtgcknekhimpfkaaGreatDoor
open Go Go.RowKit Go.Lib Go.Proofs.YtgcknekhimpfkaaGreatDoor.Pl
set_option linter.unusedVariables false
set_option linter.unusedSimpArgs false
def cpuA (r : Nat → Int) (h : Int) (n z c v : Bool) (pc : Int) : Array Value :=
 #[.int .u32 (r 0), .int .u32 (r 1), .int .u32 (r 2), .int .u32 (r 3), .int .u32 (r 4), .int .u32 (r 5), .int .u32 (r 6), .int .u32 (r 7), .int .u32 (r 8), .int .u32 (r 9), .int .u32 (r 10), .int .u32 (r 11), .int .u32 (r 12), .int .u32 (r 13), .int .u32 (r 14), .int .u32 (r 15), .int .u32 h, .bool n, .bool z, .bool c, .bool v, .int .u32 pc]
theorem CpuOk.lit {cs : Array Value} (h : CpuOk cs) : cs = cpuA (rgV cs) (rgV cs 16) (flV cs 17) (flV cs 18) (flV cs 19) (flV cs 20) (rgV cs 21) := by
 apply Array.ext_getElem?
 intro k
 by_cases hk : k < 22
 ·have : k = 0 ∨ k = 1 ∨ k = 2 ∨ k = 3 ∨ k = 4 ∨ k = 5 ∨ k = 6 ∨ k = 7 ∨ k = 8 ∨ k = 9 ∨ k = 10 ∨ k = 11 ∨ k = 12 ∨ k = 13 ∨ k = 14 ∨ k = 15 ∨ k = 16 ∨ k = 17 ∨ k = 18 ∨ k = 19 ∨ k = 20 ∨ k = 21 := by omega
  rcases this with rfl | rfl | rfl | rfl | rfl | rfl | rfl | rfl | rfl | rfl | rfl | rfl | rfl | rfl | rfl | rfl | rfl | rfl | rfl | rfl | rfl | rfl
  all_goals first | exact (h.rg (by omega)).1 | exact h.hV.1 | exact h.nV | exact h.zV | exact h.cV | exact h.vV | exact h.pcV.1
 ·rw [Array.getElem?_eq_none (by have := h.size; omega), Array.getElem?_eq_none (by simp [cpuA]; omega)]
theorem cpuEq_lit (r : Nat → Int) (h : Int) (n z c v : Bool) (pc : Int) (w : World) :
 (Op.equalIn 10000 50 (.agg (cpuA r h n z c v pc)) (.agg (cpuA r h n z c v pc))).run Tryz.prog w = .ok true w := by
 obtain ⟨i, hi⟩ := info_of_underlying Tryz.underlying23
 unfold cpuA
 simp [go_sem, Tryz.underlying50]
 rw [run_equalIn_array _ _ _ _ Tryz.underlying48 hi]
 have c1 : Tryz.prog.cellsOf 23 = 1 := by kernel_rfl
 rw [c1, show List.range 16 = [0, 1, 2, 3, 4, 5, 6, 7, 8, 9, 10, 11, 12, 13, 14, 15] from rfl]
 simp [Op.eqItems, go_sem, Tryz.underlying23]
theorem run_eql_cpu {cs : Array Value} (h : CpuOk cs) (w : World) : (binOp .eql 50 (.agg cs) (.agg cs)).run Tryz.prog w = .ok (.bool true) w := by
 rw [run_eql_struct, h.lit, cpuEq_lit]
 rfl
end Go.Proofs.YtgcknekhimpfkaaGreatDoor
