/- The walk of CpuKeeps. -/
import Derived.Test.YtnghhkageiceaaaDoorKpB
import Derived.Test.YtnghhkageiceaaaDoorKpC
import Derived.Test.YtnghhkageiceaaaDoorKpD
import Derived.BigQuiet
namespace Go.Proofs.YtnghhkageiceaaaDoor
open Go Go.RowKit Go.Lib Go.Proofs.YtnghhkageiceaaaDoor.Pl
set_option linter.unusedVariables false
set_option linter.unusedSimpArgs false
attribute [local go_sem ↓] exec_load_cpu exec_store_cpu
theorem keeps_any (cs : Array Value) (hc : CpuOk cs) (f : Int) (u v : Bool) (a b op c n l : Int) (h0 : 0 ≤ l) (h1 : l < 4294967296) (w : World) (hT : Tab w) :
    Calls Tryd.prog 9 #[.agg cs, .agg #[.int .i64 f, .bool u, .bool v, .int .i64 a, .int .i64 b, .int .i64 op, .int .i64 c, .int .i64 n], .int .u32 l] w fun e w' => e = .returned (.bool true) ∧ Below w.heap.size w w' := by
  cases hr : rightB f u v a b op c n with
  | false =>
    have hs := exV_still (cs := cs) f u v a b op c n l (.inl hr)
    exact keeps_no cs hc f u v a b op c n l 0 h0 h1 hr (Prod.ext hs.1 (Prod.ext (hs.2 hr).1 (hs.2 hr).2)) w hT
  | true =>
    cases ht : (exV cs f u v a b op c n l).2.2 with
    | true =>
      have hs := exV_still (cs := cs) f u v a b op c n l (.inr ht)
      exact keeps_trap cs hc f u v a b op c n l (exV cs f u v a b op c n l).2.1 h0 h1 hr (Prod.ext hs.1 (Prod.ext rfl ht)) w hT
    | false =>
      obtain ⟨hk, hm⟩ := exV_kept hc f u v a b op c n l hr ht
      have hxo := exV_ok hc f u v a b op c n l h0 h1
      obtain ⟨X, hX⟩ : ∃ X, (exV cs f u v a b op c n l).1 = X := ⟨_, rfl⟩
      have hx : exV cs f u v a b op c n l = (X, 0, false) := Prod.ext hX (Prod.ext hm ht)
      rw [hX] at hk hxo
      clear hm ht hX
      obtain ⟨ha, hb, hcc, ho, hf⟩ := right_inv hr
      obtain ⟨a, rfl⟩ := Int.eq_ofNat_of_zero_le ha.1
      have ha' : a ≤ 15 := by omega
      have hf : f = 0 ∨ f = 1 ∨ f = 2 ∨ f = 3 := by omega
      rcases hf with rfl | rfl | rfl | rfl
      · by_cases o8 : op = 8
        · subst o8; exact keeps_0_8 cs X hc hxo u v a ha' b c n l h0 h1 hr hx hk w hT
        by_cases o9 : op = 9
        · subst o9; exact keeps_0_9 cs X hc hxo u v a ha' b c n l h0 h1 hr hx hk w hT
        by_cases o10 : op = 10
        · subst o10; exact keeps_0_10 cs X hc hxo u v a ha' b c n l h0 h1 hr hx hk w hT
        by_cases o11 : op = 11
        · subst o11; exact keeps_0_11 cs X hc hxo u v a ha' b c n l h0 h1 hr hx hk w hT
        exact keeps_0_op cs X hc hxo u v a ha' b op c n l ⟨by omega, by omega⟩ h0 h1 hr hx hk w hT
      · by_cases o8 : op = 8
        · subst o8; exact keeps_1_8 cs X hc hxo u v a ha' b c n l h0 h1 hr hx hk w hT
        by_cases o9 : op = 9
        · subst o9; exact keeps_1_9 cs X hc hxo u v a ha' b c n l h0 h1 hr hx hk w hT
        by_cases o10 : op = 10
        · subst o10; exact keeps_1_10 cs X hc hxo u v a ha' b c n l h0 h1 hr hx hk w hT
        by_cases o11 : op = 11
        · subst o11; exact keeps_1_11 cs X hc hxo u v a ha' b c n l h0 h1 hr hx hk w hT
        exact keeps_1_op cs X hc hxo u v a ha' b op c n l ⟨by omega, by omega⟩ h0 h1 hr hx hk w hT
      · cases u
        · exact keeps_2n cs X hc hxo v a ha' b op c n l h0 h1 hr hx hk w hT
        · exact keeps_2u cs X hc hxo v a ha' b op c n l h0 h1 hr hx hk w hT
      · cases v
        · exact keeps_3n cs X hc hxo u a ha' b op c n l h0 h1 hr hx hk w hT
        · exact keeps_3v cs X hc hxo u a ha' b op c n l h0 h1 hr hx hk w hT
def cpuKeepsAts : List Gen.AT := [.agg [.int .u32, .int .u32, .int .u32, .int .u32, .int .u32, .int .u32, .int .u32, .int .u32, .int .u32, .int .u32, .int .u32, .int .u32, .int .u32, .int .u32, .int .u32, .int .u32, .int .u32, .bool, .bool, .bool, .bool, .int .u32], .agg [.int .i64, .bool, .bool, .int .i64, .int .i64, .int .i64, .int .i64, .int .i64], .one (.int .u32)]
theorem cpuKeeps_args (W : World) (vs : List Value) (h : Gen.ArgsGood W cpuKeepsAts vs) (hT : Tab W) :
    Calls Tryd.prog 9 vs.toArray W fun e W' => e = .returned (.bool true) ∧ Below W.heap.size W W' := by
  match vs, h with
  | [v0, v1, v2], h =>
    obtain ⟨⟨cs, rfl, hg⟩, ⟨is, rfl, hi⟩, hl, _⟩ := h
    have hc := cpu_inv hg
    obtain ⟨f, u, v, a, b, op, c, n, rfl⟩ := ins_inv hi
    obtain ⟨l, rfl, hw⟩ := Gen.Good.int_inv hl
    have hlb := bounds_u32 hw
    exact keeps_any _ hc f u v a b op c n l (by omega) (by omega) W hT
end Go.Proofs.YtnghhkageiceaaaDoor
