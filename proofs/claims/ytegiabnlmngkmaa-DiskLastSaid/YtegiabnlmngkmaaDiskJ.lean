/- DiskLast. -/
import Derived.Test.YtegiabnlmngkmaaDiskI
namespace Go.Proofs.Ytegiabnlmngkmaa
open Go Go.RowKit Go.Lib
set_option linter.unusedVariables false
def diskLastAts : List Gen.AT := [.one (.int .i64), .one (.int .i64), .agg [.int .i64, .int .i64, .int .u8, .int .u8, .int .i64], .agg [.int .i64, .int .i64, .int .u8, .int .u8, .int .i64]]
theorem diskLast_args (W : World) (vs : List Value) (h : Gen.ArgsGood W diskLastAts vs) :
    Calls Try.prog 3 vs.toArray W fun e W' => e = .returned (.bool true) ∧ Below W.heap.size W W' := by
  match vs, h with
  | [v0, v1, v2, v3], h =>
    obtain ⟨h0, h1, ⟨cs2, rfl, h2⟩, ⟨cs3, rfl, h3⟩, _⟩ := h
    obtain ⟨n, rfl, wn⟩ := h0.int_inv
    obtain ⟨m, rfl, wm⟩ := h1.int_inv
    obtain ⟨k1, n1, f1, m1, l1, rfl, _⟩ := step_inv h2
    obtain ⟨k2, n2, f2, m2, l2, rfl, _⟩ := step_inv h3
    have bn := i64_of wn
    have bm := i64_of wm
    by_cases n0 : 0 ≤ n
    · by_cases n1' : n < 16
      · obtain ⟨n, rfl⟩ := Int.eq_ofNat_of_zero_le n0
        have hn : n < 16 := by omega
        by_cases m0 : 0 ≤ m
        · by_cases m1' : m < 16
          · obtain ⟨m, rfl⟩ := Int.eq_ofNat_of_zero_le m0
            have hm : m < 16 := by omega
            by_cases heq : n = m
            · subst heq; exact last_ieq n hn k1 n1 f1 m1 l1 k2 n2 f2 m2 l2 W
            · exact last_ii n hn m hm heq k1 n1 f1 m1 l1 k2 n2 f2 m2 l2 W
          · exact last_ih n hn m bm (by omega) m0 m1' k1 n1 f1 m1 l1 k2 n2 f2 m2 l2 W
        · exact last_il n hn m bm (by omega) m0 k1 n1 f1 m1 l1 k2 n2 f2 m2 l2 W
      · by_cases m0 : 0 ≤ m
        · by_cases m1' : m < 16
          · obtain ⟨m, rfl⟩ := Int.eq_ofNat_of_zero_le m0
            have hm : m < 16 := by omega
            exact last_hi n bn (by omega) n0 n1' m hm k1 n1 f1 m1 l1 k2 n2 f2 m2 l2 W
          · by_cases heq : n = m
            · subst heq; exact last_heq n bn (by omega) n0 n1' k1 n1 f1 m1 l1 k2 n2 f2 m2 l2 W
            · exact last_hh n bn (by omega) n0 n1' m bm (by omega) m0 m1' heq k1 n1 f1 m1 l1 k2 n2 f2 m2 l2 W
        · exact last_hl n bn (by omega) n0 n1' m bm (by omega) m0 k1 n1 f1 m1 l1 k2 n2 f2 m2 l2 W
    · by_cases m0 : 0 ≤ m
      · by_cases m1' : m < 16
        · obtain ⟨m, rfl⟩ := Int.eq_ofNat_of_zero_le m0
          have hm : m < 16 := by omega
          exact last_li n bn (by omega) n0 m hm k1 n1 f1 m1 l1 k2 n2 f2 m2 l2 W
        · exact last_lh n bn (by omega) n0 m bm (by omega) m0 m1' k1 n1 f1 m1 l1 k2 n2 f2 m2 l2 W
      · by_cases heq : n = m
        · subst heq; exact last_leq n bn (by omega) n0 k1 n1 f1 m1 l1 k2 n2 f2 m2 l2 W
        · exact last_ll n bn (by omega) n0 m bm (by omega) m0 heq k1 n1 f1 m1 l1 k2 n2 f2 m2 l2 W
end Go.Proofs.Ytegiabnlmngkmaa
