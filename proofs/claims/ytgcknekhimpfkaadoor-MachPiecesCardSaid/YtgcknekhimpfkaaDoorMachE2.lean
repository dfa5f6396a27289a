/- The walk of MachEnds, whatever comes in. -/
import Derived.Test.YtgcknekhimpfkaaDoorMachE1
import Derived.Test.YtgcknekhimpfkaaDoorGen
import Derived.Test.YtgcknekhimpfkaaDoorCpuTab
namespace Go.Proofs.YtgcknekhimpfkaaDoor
open Go Go.RowKit Go.Lib Go.Proofs.YtgcknekhimpfkaaDoor.Pl
set_option linter.unusedVariables false
set_option linter.unusedSimpArgs false
theorem start_inv {W : World} {cs : List Value} (h : Gen.GoodAll W [.slice 4 [.int .u32], .int .u32, .int .i64] cs) :
    ∃ (A : Option Addr) (n c : Nat) (ent s : Int) (f : Nat → Int), cs.toArray = #[.slice A n c, .int .u32 ent, .int .i64 s] ∧ n ≤ 35184372089000 ∧ 0 ≤ ent ∧ ent < 4294967296 ∧ RdI .u32 W A n f ∧ (∀ i, 0 ≤ f i ∧ f i < 4294967296) := by
  obtain ⟨v0, h0, g0⟩ := h.at_ (j := 0) rfl
  obtain ⟨A, n, c, V, rfl, hl, hm, hb, hr⟩ := g0.slice_inv
  obtain ⟨f, hf1, hf2, hf3⟩ := Gen.rows_int hr
  obtain ⟨ent, h1, w1⟩ := h.int 1 rfl
  obtain ⟨s, h2, w2⟩ := h.int 2 rfl
  have b1 := bounds_u32 w1
  have hlen := h.1
  unfold reachBytes at hb
  refine ⟨A, n, c, ent, s, f, ?_, by omega, by omega, by omega, fun hn => ?_, fun i => ?_⟩
  · match cs, hlen, h0, h1, h2 with
    | [a, b, d], _, h0, h1, h2 =>
      simp only [List.getElem?_cons_zero, List.getElem?_cons_succ, Option.some.injEq] at h0 h1 h2
      rw [h0, h1, h2]
  · obtain ⟨b, off, h3, h4, h5⟩ := hf1 (by omega)
    exact ⟨b, off, h3, h4, fun i hi => h5 i (by omega)⟩
  · rcases Nat.lt_or_ge i c with g | g
    · have := bounds_u32 (hf2 i g); omega
    · rw [hf3 i g]; decide
set_option maxRecDepth 100000 in
set_option maxHeartbeats 1000000 in
theorem mends_bad (A : Option Addr) (n c : Nat) (ent s : Int) (w : World) (hT : Tab w) (h0 : 0 ≤ ent) (h1 : ent < 4294967296) (hn : n ≤ 35184372089000) (hb : ¬ mgood n ent) (f : Nat → Int) (hr : RdI .u32 w A n f) (inp : ByteArray) (most : Int) :
    Calls Tryd.prog 4 #[.agg #[.slice A n c, .int .u32 ent, .int .i64 s], .string inp, .int .i64 most] w fun e w' => e = .returned (.bool true) ∧ Below w.heap.size w w' := by
  have HT := Lib.hid hT
  have HMD := Lib.hid (fun (W : World) (hW : Below w.heap.size w W) => made_bad A n c ent s W h0 h1 hn hb f (RdI.keep hr hW))
  have hBox : Below w.heap.size w (w.alloc (.cells #[.slice A n c, .int .u32 ent, .int .i64 s] 45)) := (Below.refl _ _).alloc (Nat.le_refl _) _
  have HBX := Lib.hid hBox
  have KBX := Lib.hid (Blk.new w #[.slice A n c, .int .u32 ent, .int .i64 s] 45)
  clear hr hT hb hBox
  go_enter Tryd.func4, Tryd.ntmps4
  go_upto_region 2 with (go_at_call 8; refine (mshown_any _ (HT.out.below ((Below.refl _ _).alloc (Nat.le_refl _) _) HT.out.lt)).mono ?_; rintro e w1 ⟨rfl, hb1⟩; have HB1 := Lib.hid hb1; clear hb1)
  have HW1 := Lib.hid (HBX.out.trans (HB1.out.mono HBX.out.size))
  have K1 := KBX.out.step HB1.out
  have e0 := K1.cell 0
  have e1 := K1.cell 1
  have e2 := K1.cell 2
  simp only [List.getElem?_toArray, List.getElem?_cons_zero, List.getElem?_cons_succ] at e0 e1 e2
  clear K1 KBX HBX HB1
  go_upto_region 3 with (go_at_call 14; refine (HMD.out _ HW1.out).mono ?_; rintro e w2 ⟨rfl, hb2⟩; have HB2 := Lib.hid (HW1.out.trans (hb2.mono HW1.out.size)); clear hb2)
  clear e0 e1 e2 HMD
  go_wp2_with fail
  go_ret
  exact ⟨rfl, HB2.out⟩
def machEndsAts : List Gen.AT := [.agg [.slice 4 [.int .u32], .int .u32, .int .i64], .one (.str), .one (.int .i64)]
theorem machEnds_args (W : World) (vs : List Value) (h : Gen.ArgsGood W machEndsAts vs) (hT : Tab W) :
    Calls Tryd.prog 4 vs.toArray W fun e W' => e = .returned (.bool true) ∧ Below W.heap.size W W' := by
  match vs, h with
  | [v0, v1, v2], h =>
    obtain ⟨h0, h1, h2, _⟩ := h
    obtain ⟨cs, rfl, g0⟩ := h0
    obtain ⟨A, n, c, ent, s, f, hc, hn, e0, e1, hr, hf⟩ := start_inv g0
    obtain ⟨inp, rfl, hs⟩ := h1.str_inv
    obtain ⟨most, rfl, wm⟩ := h2.int_inv
    have bm := bounds_i64 wm
    unfold reachBytes at hs
    rw [hc]
    by_cases hb : mgood n ent
    · by_cases hm : most ≤ 3000
      · exact mends_yes A n c ent s W hT e0 hb f hf hr inp hs most most (min (max most 0) 10000000).toNat (fun w => budget_lo most hm w) (by omega) hm (by omega)
      · exact mends_yes A n c ent s W hT e0 hb f hf hr inp hs most 3000 3000 (fun w => budget_hi most (by omega) w) (by omega) (by omega) (by omega)
    · exact mends_bad A n c ent s W hT e0 e1 hn hb f hr inp most
end Go.Proofs.YtgcknekhimpfkaaDoor
