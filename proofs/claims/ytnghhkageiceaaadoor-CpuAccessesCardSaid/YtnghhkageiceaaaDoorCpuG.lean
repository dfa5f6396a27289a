/- Two instructions held against each other; a bool as a bit. -/
import Derived.Test.YtnghhkageiceaaaDoorCpuF
import Derived.Test.YtnghhkageiceaaaDoorPlainB
import Derived.Test.YtnghhkageiceaaaDoorPlainC
import Derived.WalkSmall
import Derived.Deep.QuietTactic
import Derived.BigQuiet
namespace Go.Proofs.YtnghhkageiceaaaDoor
open Go Go.RowKit Go.Lib Go.Proofs.YtnghhkageiceaaaDoor.Pl
set_option linter.unusedVariables false
set_option linter.unusedSimpArgs false
def insEq (f f' : Int) (u u' v v' : Bool) (a a' b b' op op' c c' n n' : Int) : Bool := decide (f = f' ∧ u = u' ∧ v = v' ∧ a = a' ∧ b = b' ∧ op = op' ∧ c = c' ∧ n = n')
theorem insEq_run (f f' : Int) (u u' v v' : Bool) (a a' b b' op op' c c' n n' : Int) (w : World) :
    (Op.equalIn 10000 33 (.agg #[.int .i64 f, .bool u, .bool v, .int .i64 a, .int .i64 b, .int .i64 op, .int .i64 c, .int .i64 n]) (.agg #[.int .i64 f', .bool u', .bool v', .int .i64 a', .int .i64 b', .int .i64 op', .int .i64 c', .int .i64 n'])).run Tryd.prog w = .ok (insEq f f' u u' v v' a a' b b' op op' c c' n n') w := by
  simp [go_sem, Tryd.underlying33]
  unfold insEq
  repeat' split
  all_goals simp_all
theorem run_eql_ins (f f' : Int) (u u' v v' : Bool) (a a' b b' op op' c c' n n' : Int) (w : World) :
    (binOp .eql 33 (.agg #[.int .i64 f, .bool u, .bool v, .int .i64 a, .int .i64 b, .int .i64 op, .int .i64 c, .int .i64 n]) (.agg #[.int .i64 f', .bool u', .bool v', .int .i64 a', .int .i64 b', .int .i64 op', .int .i64 c', .int .i64 n'])).run Tryd.prog w = .ok (.bool (insEq f f' u u' v v' a a' b b' op op' c c' n n')) w := by
  rw [run_eql_struct, insEq_run]
  rfl
theorem run_neq_ins (f f' : Int) (u u' v v' : Bool) (a a' b b' op op' c c' n n' : Int) (w : World) :
    (binOp .neq 33 (.agg #[.int .i64 f, .bool u, .bool v, .int .i64 a, .int .i64 b, .int .i64 op, .int .i64 c, .int .i64 n]) (.agg #[.int .i64 f', .bool u', .bool v', .int .i64 a', .int .i64 b', .int .i64 op', .int .i64 c', .int .i64 n'])).run Tryd.prog w = .ok (.bool (!insEq f f' u u' v v' a a' b b' op op' c c' n n')) w := by
  rw [run_neq_struct, insEq_run]
  rfl
theorem insEq_self (f : Int) (u v : Bool) (a b op c n : Int) : insEq f f u u v v a a b b op op c c n n = true := by simp [insEq]
def flagV (b : Bool) (k : Int) : Int := cr b * 2 ^ k.toNat
theorem flag_nat (b : Bool) (k : Nat) (hk : k ≤ 31) (w : World) :
    Calls Tryd.prog 28 #[.bool b, .int .i64 k] w fun e w' => e = .returned (.int .u32 (flagV b k)) ∧ w' = w := by
  have hp : (2 : Int) ^ k % 4294967296 = 2 ^ k := Int.emod_eq_of_lt (Int.le_of_lt (Int.pow_pos (by decide))) (by
    have : (2 : Int) ^ k ≤ 2 ^ 31 := by
      have := Nat.pow_le_pow_right (n := 2) (by decide) hk
      exact_mod_cast this
    omega)
  cases b
  · have H : Hid (flagV false k = 0) := (by simp [flagV, cr] : flagV false k = 0)
    clear hp
    go_enter Tryd.func28, Tryd.ntmps28
    go_wp2_with fail
    go_ret
    exact ⟨by rw [H.out]; rfl, rfl⟩
  · have H : Hid (flagV true k = 2 ^ k % 4294967296) := (by rw [hp]; simp [flagV, cr] : flagV true k = 2 ^ k % 4294967296)
    clear hp
    go_enter Tryd.func28, Tryd.ntmps28
    go_wp2_with fail
    go_ret
    exact ⟨by rw [H.out]; rfl, rfl⟩
theorem flag_any (b : Bool) (k : Int) (h0 : 0 ≤ k) (h1 : k ≤ 31) (w : World) :
    Calls Tryd.prog 28 #[.bool b, .int .i64 k] w fun e w' => e = .returned (.int .u32 (flagV b k)) ∧ w' = w := by
  obtain ⟨m, rfl⟩ := Int.eq_ofNat_of_zero_le h0
  exact flag_nat b m (by omega) w
theorem flagV_bd (b : Bool) (k : Nat) : flagV b k = cr b * 2 ^ k := by simp [flagV]
/-- What is right. -/
theorem reck_inv {f : Int} {u v : Bool} {a b op c : Int} (h : reckB f u v a b op c = true) : 0 ≤ op ∧ op ≤ 15 := by
  unfold reckB at h
  by_cases g : op < 0 ∨ 11 < op ∧ op ≠ 15
  · rw [if_pos g] at h; cases h
  · omega
theorem right_inv {f : Int} {u v : Bool} {a b op c n : Int} (h : rightB f u v a b op c n = true) :
    (0 ≤ a ∧ a ≤ 15) ∧ (0 ≤ b ∧ b ≤ 15) ∧ (0 ≤ c ∧ c ≤ 15) ∧ (0 ≤ op ∧ op ≤ 15) ∧
      (f = 0 ∧ n = 0 ∧ reckB 0 u v a b op c = true ∨ f = 1 ∧ c = 0 ∧ (0 ≤ n ∧ n ≤ 65535) ∧ reckB 1 u v a b op c = true ∨ f = 2 ∧ c = 0 ∧ op = 0 ∧ (-524288 ≤ n ∧ n ≤ 524287) ∨ f = 3 ∧ b = 0 ∧ op = 0 ∧ (u = true ∧ c = 0 ∧ (-8388608 ≤ n ∧ n ≤ 8388607) ∨ u = false ∧ n = 0)) := by
  unfold rightB at h
  by_cases g : reg a && reg b && reg c
  · rw [g] at h
    simp only [Bool.not_true, Bool.false_eq_true, if_false] at h
    unfold reg at g
    simp only [Bool.and_eq_true, decide_eq_true_eq] at g
    by_cases h0 : f = 0
    · subst h0
      simp only [if_true, Bool.and_eq_true, decide_eq_true_eq] at h
      have := reck_inv h.2
      exact ⟨g.1.1, g.1.2, g.2, this, .inl ⟨rfl, h.1, h.2⟩⟩
    by_cases h1 : f = 1
    · subst h1
      simp only [if_neg h0, if_true, Bool.and_eq_true, decide_eq_true_eq] at h
      have := reck_inv h.2
      exact ⟨g.1.1, g.1.2, g.2, this, .inr (.inl ⟨rfl, h.1.1, h.1.2, h.2⟩)⟩
    by_cases h2 : f = 2
    · subst h2
      simp only [if_neg h0, if_neg h1, if_true, Bool.and_eq_true, decide_eq_true_eq] at h
      exact ⟨g.1.1, g.1.2, g.2, by omega, .inr (.inr (.inl ⟨rfl, h.1.1, h.1.2, h.2⟩))⟩
    by_cases h3 : f = 3
    · subst h3
      simp only [if_neg h0, if_neg h1, if_neg h2, if_true, Bool.and_eq_true, decide_eq_true_eq] at h
      refine ⟨g.1.1, g.1.2, g.2, by omega, .inr (.inr (.inr ⟨rfl, h.1.1, h.1.2, ?_⟩))⟩
      cases u
      · simp only [Bool.false_eq_true, if_false, decide_eq_true_eq] at h
        exact .inr ⟨rfl, h.2⟩
      · simp only [if_true, Bool.and_eq_true, decide_eq_true_eq] at h
        exact .inl ⟨rfl, h.2⟩
    · simp only [if_neg h0, if_neg h1, if_neg h2, if_neg h3] at h
      cases h
  · rw [Bool.eq_false_iff.2 g] at h
    simp at h
/-- The word of an instruction that is right. -/
def encN (f n : Int) : Int := if f = 1 then n else if f = 2 then n % 1048576 else if f = 3 then n % 16777216 else 0
def encW (f : Int) (u v : Bool) (a b op c n : Int) : Int := f * 1073741824 + cr u * 536870912 + cr v * 268435456 + a * 16777216 + b * 1048576 + op * 65536 + c + encN f n
theorem or_low (y x : Int) (i : Nat) (hx : 0 ≤ x) (hx' : x < 4294967296) (hxi : x < 2 ^ i) (hy : 0 ≤ y) (hy' : y < 4294967296) (hyi : y % 2 ^ i = 0) : bits .or .u32 y x = y + x := by
  have h := or_join x y i hx hx' hxi hy hy' hyi
  rw [u32_or _ _ hy hy' hx hx', Nat.or_comm]
  rw [u32_or _ _ hx hx' hy hy'] at h
  rw [h]; omega
theorem and_low (n : Int) (k : Nat) (hk : k ≤ 32) : bits .and .u32 (n % 4294967296) (2 ^ k - 1) = n % 2 ^ k := by
  have hb := p2_bd k hk
  have h0 : 0 ≤ n % 4294967296 := by omega
  have h1 : n % 4294967296 < 4294967296 := by omega
  rw [u32_and _ _ h0 h1 (by omega) (by omega)]
  obtain ⟨m, hm⟩ := Int.eq_ofNat_of_zero_le h0
  rw [hm, show ((2 : Int) ^ k - 1).toNat = 2 ^ k - 1 from by
    have : ((2 ^ k : Nat) : Int) = (2 : Int) ^ k := by exact_mod_cast rfl
    omega, Int.toNat_natCast, Nat.and_two_pow_sub_one_eq_mod]
  have e : (4294967296 : Int) = 2 ^ k * 2 ^ (32 - k) := (p2_32 k hk).symm
  have : n % 2 ^ k = (n % 4294967296) % 2 ^ k := by rw [e, Int.emod_emod_of_dvd n (Int.dvd_mul_right _ _)]
  rw [this, hm]
  exact_mod_cast rfl
theorem enc_or (F : Int) (u v : Bool) (a b op c : Int) (hF : F = 0 ∨ F = 1073741824 ∨ F = 2147483648 ∨ F = 3221225472) (ha : 0 ≤ a ∧ a ≤ 15) (hb : 0 ≤ b ∧ b ≤ 15) (hc : 0 ≤ c ∧ c ≤ 15) (ho : 0 ≤ op ∧ op ≤ 15) :
    bits .or .u32 (bits .or .u32 (bits .or .u32 (bits .or .u32 (bits .or .u32 (bits .or .u32 F (flagV u 29)) (flagV v 28)) (a % 4294967296 * 16777216 % 4294967296)) (b % 4294967296 * 1048576 % 4294967296)) (op % 4294967296 * 65536 % 4294967296)) (c % 4294967296)
      = F + cr u * 536870912 + cr v * 268435456 + a * 16777216 + b * 1048576 + op * 65536 + c := by
  have e1 : flagV u 29 = cr u * 536870912 := flagV_bd u 29
  have e2 : flagV v 28 = cr v * 268435456 := flagV_bd v 28
  have hu := cr_bd u
  have hv := cr_bd v
  rw [e1, e2, show a % 4294967296 * 16777216 % 4294967296 = a * 16777216 from by omega, show b % 4294967296 * 1048576 % 4294967296 = b * 1048576 from by omega, show op % 4294967296 * 65536 % 4294967296 = op * 65536 from by omega, show c % 4294967296 = c from by omega]
  generalize cr u = U at *
  generalize cr v = V at *
  rw [or_low F (U * 536870912) 30 (by omega) (by omega) (by simp; omega) (by omega) (by omega) (by simp; omega),
    or_low _ (V * 268435456) 29 (by omega) (by omega) (by simp; omega) (by omega) (by omega) (by simp; omega),
    or_low _ (a * 16777216) 28 (by omega) (by omega) (by simp; omega) (by omega) (by omega) (by simp; omega),
    or_low _ (b * 1048576) 24 (by omega) (by omega) (by simp; omega) (by omega) (by omega) (by simp; omega),
    or_low _ (op * 65536) 20 (by omega) (by omega) (by simp; omega) (by omega) (by omega) (by simp; omega),
    or_low _ c 16 (by omega) (by omega) (by simp; omega) (by omega) (by omega) (by simp; omega)]
theorem encW_bd {f : Int} {u v : Bool} {a b op c n : Int} (h : rightB f u v a b op c n = true) : 0 ≤ encW f u v a b op c n ∧ encW f u v a b op c n < 4294967296 := by
  obtain ⟨ha, hb, hc, ho, hf⟩ := right_inv h
  have hu := cr_bd u
  have hv := cr_bd v
  unfold encW encN
  rcases hf with ⟨rfl, _⟩ | ⟨rfl, _⟩ | ⟨rfl, _⟩ | ⟨rfl, _⟩ <;> simp <;> omega
theorem enc_or0 (u v : Bool) (a b op c n : Int) (h : rightB 0 u v a b op c n = true) :
    bits .or .u32 (bits .or .u32 (bits .or .u32 (bits .or .u32 (bits .or .u32 (bits .or .u32 0 (flagV u 29)) (flagV v 28)) (a % 4294967296 * 16777216 % 4294967296)) (b % 4294967296 * 1048576 % 4294967296)) (op % 4294967296 * 65536 % 4294967296)) (c % 4294967296) = encW 0 u v a b op c n := by
  obtain ⟨ha, hb, hc, ho, hf⟩ := right_inv h
  rw [enc_or 0 u v a b op c (by omega) ha hb hc ho]
  simp [encW, encN]
theorem enc_or1 (u v : Bool) (a b op c n : Int) (h : rightB 1 u v a b op c n = true) :
    bits .or .u32 (bits .or .u32 (bits .or .u32 (bits .or .u32 (bits .or .u32 (bits .or .u32 (bits .or .u32 1073741824 (flagV u 29)) (flagV v 28)) (a % 4294967296 * 16777216 % 4294967296)) (b % 4294967296 * 1048576 % 4294967296)) (op % 4294967296 * 65536 % 4294967296)) (c % 4294967296)) (n % 4294967296) = encW 1 u v a b op c n := by
  obtain ⟨ha, hb, hc, ho, hf⟩ := right_inv h
  have hu := cr_bd u
  have hv := cr_bd v
  rw [enc_or 1073741824 u v a b op c (by omega) ha hb hc ho]
  unfold encW encN
  rw [or_low _ (n % 4294967296) 16 (by omega) (by omega) (by simp; omega) (by omega) (by omega) (by simp; omega)]
  simp
  omega
theorem enc_or2 (u v : Bool) (a b op c n : Int) (h : rightB 2 u v a b op c n = true) :
    bits .or .u32 (bits .or .u32 (bits .or .u32 (bits .or .u32 (bits .or .u32 (bits .or .u32 (bits .or .u32 2147483648 (flagV u 29)) (flagV v 28)) (a % 4294967296 * 16777216 % 4294967296)) (b % 4294967296 * 1048576 % 4294967296)) (op % 4294967296 * 65536 % 4294967296)) (c % 4294967296)) (bits .and .u32 (n % 4294967296) 1048575) = encW 2 u v a b op c n := by
  obtain ⟨ha, hb, hc, ho, hf⟩ := right_inv h
  have hu := cr_bd u
  have hv := cr_bd v
  rw [enc_or 2147483648 u v a b op c (by omega) ha hb hc ho, show bits .and .u32 (n % 4294967296) 1048575 = n % 1048576 from and_low n 20 (by omega)]
  unfold encW encN
  rw [or_low _ (n % 1048576) 20 (by omega) (by omega) (by simp; omega) (by omega) (by omega) (by simp; omega)]
  simp
theorem enc_or3 (u v : Bool) (a b op c n : Int) (h : rightB 3 u v a b op c n = true) :
    bits .or .u32 (bits .or .u32 (bits .or .u32 (bits .or .u32 (bits .or .u32 (bits .or .u32 (bits .or .u32 3221225472 (flagV u 29)) (flagV v 28)) (a % 4294967296 * 16777216 % 4294967296)) (b % 4294967296 * 1048576 % 4294967296)) (op % 4294967296 * 65536 % 4294967296)) (c % 4294967296)) (bits .and .u32 (n % 4294967296) 16777215) = encW 3 u v a b op c n := by
  obtain ⟨ha, hb, hc, ho, hf⟩ := right_inv h
  have hu := cr_bd u
  have hv := cr_bd v
  rw [enc_or 3221225472 u v a b op c (by omega) ha hb hc ho, show bits .and .u32 (n % 4294967296) 16777215 = n % 16777216 from and_low n 24 (by omega)]
  rcases hf with ⟨h, _⟩ | ⟨h, _⟩ | ⟨h, _⟩ | ⟨_, h1, h2, h3⟩
  · omega
  · omega
  · omega
  subst h1 h2
  unfold encW encN
  simp only [Int.reduceMul, Int.zero_mul, Int.add_zero]
  rcases h3 with ⟨h3, h4, _⟩ | ⟨_, h4⟩
  · rw [or_low _ (n % 16777216) 24 (by omega) (by omega) (by simp; omega) (by omega) (by omega) (by simp; omega)]
    simp
  · subst h4
    rw [or_low _ _ 0 (by simp) (by simp) (by simp) (by omega) (by omega) (by simp)]
    simp
theorem bel1 {w w1 : World} {o : Obj} (h : Below (w.alloc o).heap.size (w.alloc o) w1) : Below w.heap.size w w1 :=
  Below.trans ((Below.refl _ _).alloc (Nat.le_refl _) _) (h.mono (by simp))
theorem bel2 {w w1 : World} {o p : Obj} (h : Below ((w.alloc o).alloc p).heap.size ((w.alloc o).alloc p) w1) : Below w.heap.size w w1 :=
  Below.trans (((Below.refl _ _).alloc (Nat.le_refl _) _).alloc (by simp) _) (h.mono (by simp; omega))
theorem belSet {B : Nat} {a w : World} (h : Below B a w) (o : Nat) (v : Value) : Below B a (w.setCell ⟨B, o, none⟩ v) := h.setCell (Nat.le_refl _) v
theorem belN {B : Nat} {w w1 : World} (h : Below B w w1) (n : Nat) : Below B w (w1.drewN n) := h.trans ⟨rfl, rfl, rfl, Nat.le_refl _, fun _ _ => rfl⟩
theorem bcell {W w1 : World} (hb : Below W.heap.size W w1) : (∀ b o, b < W.heap.size → w1.cell? ⟨b, o, none⟩ = W.cell? ⟨b, o, none⟩) ∧ (∀ b o, b < W.heap.size → w1.frozen? ⟨b, o, none⟩ = W.frozen? ⟨b, o, none⟩) :=
  ⟨fun b o h => hb.cell (p := ⟨b, o, none⟩) h, fun b o h => hb.frozen (p := ⟨b, o, none⟩) h⟩
end Go.Proofs.YtnghhkageiceaaaDoor
