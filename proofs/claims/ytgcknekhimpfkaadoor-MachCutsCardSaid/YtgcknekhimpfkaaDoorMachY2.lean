/- The walk of MachCuts, whatever comes in. -/
import Derived.Test.YtgcknekhimpfkaaDoorMachY
import Derived.Test.YtgcknekhimpfkaaDoorMachE2
namespace Go.Proofs.YtgcknekhimpfkaaDoor
open Go Go.RowKit Go.Lib Go.Proofs.YtgcknekhimpfkaaDoor.Pl
set_option linter.unusedVariables false
set_option linter.unusedSimpArgs false
set_option maxRecDepth 100000 in
set_option maxHeartbeats 1000000 in
theorem mcuts_bad (A : Option Addr) (n c : Nat) (ent s : Int) (w : World) (hT : Tab w) (h0 : 0 ≤ ent) (h1 : ent < 4294967296) (hn : n ≤ 35184372089000) (hb : ¬ mgood n ent) (f : Nat → Int) (hr : RdI .u32 w A n f) (inp : ByteArray) (most : Int) :
    Calls Tryd.prog 5 #[.agg #[.slice A n c, .int .u32 ent, .int .i64 s], .string inp, .int .i64 most] w fun e w' => e = .returned (.bool true) ∧ Below w.heap.size w w' := by
  have HT := Lib.hid hT
  have HMD := Lib.hid (fun (W : World) (hW : Below w.heap.size w W) => made_bad A n c ent s W h0 h1 hn hb f (RdI.keep hr hW))
  have hBox : Below w.heap.size w (w.alloc (.cells #[.slice A n c, .int .u32 ent, .int .i64 s] 45)) := (Below.refl _ _).alloc (Nat.le_refl _) _
  have HBX := Lib.hid hBox
  have KBX := Lib.hid (Blk.new w #[.slice A n c, .int .u32 ent, .int .i64 s] 45)
  clear hr hT hb hBox
  go_enter Tryd.func5, Tryd.ntmps5
  go_upto_region 2 with (go_at_call 8; refine (mshown_any _ (HT.out.below ((Below.refl _ _).alloc (Nat.le_refl _) _) HT.out.lt)).mono ?_; rintro e w1 ⟨rfl, hb1⟩; have HB1 := Lib.hid hb1; clear hb1)
  have HW1 := Lib.hid (HBX.out.trans (HB1.out.mono HBX.out.size))
  have K1 := KBX.out.step HB1.out
  have e0 := K1.cell 0
  have e1 := K1.cell 1
  have e2 := K1.cell 2
  simp only [List.getElem?_toArray, List.getElem?_cons_zero, List.getElem?_cons_succ] at e0 e1 e2
  have KK := Lib.hid K1
  clear K1 KBX HBX HB1
  go_upto_region 3 with (go_at_call 14; refine (HMD.out _ HW1.out).mono ?_; rintro e w2 ⟨rfl, hb2⟩; have HB2 := Lib.hid (HW1.out.trans (hb2.mono HW1.out.size)); have K2 := Lib.hid (KK.out.step hb2); clear hb2)
  clear e0 e1 e2 KK
  have e0 := K2.out.cell 0
  have e1 := K2.out.cell 1
  have e2 := K2.out.cell 2
  simp only [List.getElem?_toArray, List.getElem?_cons_zero, List.getElem?_cons_succ] at e0 e1 e2
  go_upto_region 4 with (go_at_call 14; refine (HMD.out _ HB2.out).mono ?_; rintro e w3 ⟨rfl, hb3⟩; have HB3 := Lib.hid (HB2.out.trans (hb3.mono HB2.out.size)); clear hb3)
  clear e0 e1 e2 K2 HMD
  go_wp2_with fail
  go_ret
  exact ⟨rfl, HB3.out⟩
set_option maxRecDepth 100000 in
set_option maxHeartbeats 1000000 in
theorem mcuts_neg (A : Option Addr) (n c : Nat) (ent s : Int) (w : World) (hT : Tab w) (h0 : 0 ≤ ent) (hb : mgood n ent) (f : Nat → Int) (hf : ∀ i, 0 ≤ f i ∧ f i < 4294967296) (hr : RdI .u32 w A n f) (inp : ByteArray) (most : Int) (hm : most < 0) :
    Calls Tryd.prog 5 #[.agg #[.slice A n c, .int .u32 ent, .int .i64 s], .string inp, .int .i64 most] w fun e w' => e = .returned (.bool true) ∧ Below w.heap.size w w' := by
  have HT := Lib.hid hT
  have HMD := Lib.hid (fun (W : World) (hW : Below w.heap.size w W) => made_yes A n c ent s W h0 hb f hf (RdI.keep hr hW))
  have hBox : Below w.heap.size w (w.alloc (.cells #[.slice A n c, .int .u32 ent, .int .i64 s] 45)) := (Below.refl _ _).alloc (Nat.le_refl _) _
  have HBX := Lib.hid hBox
  have KBX := Lib.hid (Blk.new w #[.slice A n c, .int .u32 ent, .int .i64 s] 45)
  have tm : decide (most < 0) = true := decide_eq_true hm
  clear hr hT hb hf hBox
  go_enter Tryd.func5, Tryd.ntmps5
  go_upto_region 2 with (go_at_call 8; refine (mshown_any _ (HT.out.below ((Below.refl _ _).alloc (Nat.le_refl _) _) HT.out.lt)).mono ?_; rintro e w1 ⟨rfl, hb1⟩; have HB1 := Lib.hid hb1; clear hb1)
  have HW1 := Lib.hid (HBX.out.trans (HB1.out.mono HBX.out.size))
  have K1 := KBX.out.step HB1.out
  have e0 := K1.cell 0
  have e1 := K1.cell 1
  have e2 := K1.cell 2
  simp only [List.getElem?_toArray, List.getElem?_cons_zero, List.getElem?_cons_succ] at e0 e1 e2
  have KK := Lib.hid K1
  clear K1 KBX HBX HB1
  go_upto_region 3 with (go_at_call 14; refine (HMD.out _ HW1.out).mono ?_; rintro e w2 ⟨b2, m2, v2, r2, rfl, -, hb2, -⟩; have HB2 := Lib.hid (HW1.out.trans (hb2.mono HW1.out.size)); have K2 := Lib.hid (KK.out.step hb2); clear hb2)
  clear e0 e1 e2 KK
  have e0 := K2.out.cell 0
  have e1 := K2.out.cell 1
  have e2 := K2.out.cell 2
  simp only [List.getElem?_toArray, List.getElem?_cons_zero, List.getElem?_cons_succ] at e0 e1 e2
  go_upto_region 4 with (go_at_call 14; refine (HMD.out _ HB2.out).mono ?_; rintro e w3 ⟨b3, m3, v3, r3, rfl, -, hb3, -⟩; have HB3 := Lib.hid (HB2.out.trans (hb3.mono HB2.out.size)); clear hb3)
  clear e0 e1 e2 K2 HMD
  go_wp2_with fail
  go_ret
  exact ⟨rfl, HB3.out⟩
def machCutsAts : List Gen.AT := [.agg [.slice 4 [.int .u32], .int .u32, .int .i64], .one (.str), .one (.int .i64)]
theorem machCuts_args (W : World) (vs : List Value) (h : Gen.ArgsGood W machCutsAts vs) (hT : Tab W) :
    Calls Tryd.prog 5 vs.toArray W fun e W' => e = .returned (.bool true) ∧ Below W.heap.size W W' := by
  match vs, h with
  | [v0, v1, v2], h =>
    obtain ⟨h0, h1, h2, _⟩ := h
    obtain ⟨cs, rfl, g0⟩ := h0
    obtain ⟨A, n, c, ent, s, f, hc, hn, e0, e1, hr, hf⟩ := start_inv g0
    obtain ⟨inp, rfl, hs⟩ := h1.str_inv
    obtain ⟨cut, rfl, wm⟩ := h2.int_inv
    have bm := bounds_i64 wm
    unfold reachBytes at hs
    rw [hc]
    by_cases hb : mgood n ent
    · by_cases hm : 0 ≤ cut
      · exact mcuts_yes A n c ent s W hT e0 hb f hf hr inp hs cut hm
      · exact mcuts_neg A n c ent s W hT e0 hb f hf hr inp cut (by omega)
    · exact mcuts_bad A n c ent s W hT e0 e1 hn hb f hr inp cut
end Go.Proofs.YtgcknekhimpfkaaDoor
