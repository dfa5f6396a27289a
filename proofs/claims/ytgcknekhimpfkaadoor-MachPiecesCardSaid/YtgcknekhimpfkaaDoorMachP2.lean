/- The walk of MachPieces, whatever comes in. -/
import Derived.Test.YtgcknekhimpfkaaDoorMachP
import Derived.Test.YtgcknekhimpfkaaDoorMachE2
namespace Go.Proofs.YtgcknekhimpfkaaDoor
open Go Go.RowKit Go.Lib Go.Proofs.YtgcknekhimpfkaaDoor.Pl
set_option linter.unusedVariables false
set_option linter.unusedSimpArgs false
set_option maxRecDepth 100000 in
set_option maxHeartbeats 1000000 in
theorem mpieces_bad (A : Option Addr) (n c : Nat) (ent s : Int) (w : World) (hT : Tab w) (h0 : 0 ≤ ent) (h1 : ent < 4294967296) (hn : n ≤ 35184372089000) (hb : ¬ mgood n ent) (f : Nat → Int) (hr : RdI .u32 w A n f) (inp : ByteArray) (PA : Option Addr) (np pc : Nat) :
    Calls Tryd.prog 6 #[.agg #[.slice A n c, .int .u32 ent, .int .i64 s], .string inp, .slice PA np pc] w fun e w' => e = .returned (.bool true) ∧ Below w.heap.size w w' := by
  have HT := Lib.hid hT
  have HMD := Lib.hid (fun (W : World) (hW : Below w.heap.size w W) => made_bad A n c ent s W h0 h1 hn hb f (RdI.keep hr hW))
  have hBox : Below w.heap.size w (w.alloc (.cells #[.slice A n c, .int .u32 ent, .int .i64 s] 45)) := (Below.refl _ _).alloc (Nat.le_refl _) _
  have HBX := Lib.hid hBox
  have KBX := Lib.hid (Blk.new w #[.slice A n c, .int .u32 ent, .int .i64 s] 45)
  clear hr hT hb hBox
  go_enter Tryd.func6, Tryd.ntmps6
  go_upto_region 2 with (go_at_call 8; refine (mshown_any _ (HT.out.below ((Below.refl _ _).alloc (Nat.le_refl _) _) HT.out.lt)).mono ?_; rintro e w1 ⟨rfl, hb1⟩; have HB1 := Lib.hid hb1; clear hb1)
  have HW1 := Lib.hid (HBX.out.trans (HB1.out.mono HBX.out.size))
  have K1 := KBX.out.step HB1.out
  have e0 := K1.cell 0
  have e1 := K1.cell 1
  have e2 := K1.cell 2
  simp only [List.getElem?_toArray, List.getElem?_cons_zero, List.getElem?_cons_succ] at e0 e1 e2
  have KK := Lib.hid K1
  clear K1 KBX HBX HB1
  go_upto_region 3 with (go_at_call 14; refine (HMD.out _ HW1.out).mono ?_; rintro e w2 ⟨rfl, hb2⟩; have HB2 := Lib.hid (HW1.out.trans (hb2.mono HW1.out.size)); have K2 := Lib.hid (KK.out.step hb2); clear hb2)
  clear e0 e1 e2 KK
  have e0 := K2.out.cell 0
  have e1 := K2.out.cell 1
  have e2 := K2.out.cell 2
  simp only [List.getElem?_toArray, List.getElem?_cons_zero, List.getElem?_cons_succ] at e0 e1 e2
  go_upto_region 4 with (go_at_call 14; refine (HMD.out _ HB2.out).mono ?_; rintro e w3 ⟨rfl, hb3⟩; have HB3 := Lib.hid (HB2.out.trans (hb3.mono HB2.out.size)); clear hb3)
  clear e0 e1 e2 K2 HMD
  go_wp2_with fail
  go_ret
  exact ⟨rfl, HB3.out⟩
def machPiecesAts : List Gen.AT := [.agg [.slice 4 [.int .u32], .int .u32, .int .i64], .one (.str), .one (.slice 8 [.int .i64])]
theorem machPieces_args (W : World) (vs : List Value) (h : Gen.ArgsGood W machPiecesAts vs) (hT : Tab W) :
    Calls Tryd.prog 6 vs.toArray W fun e W' => e = .returned (.bool true) ∧ Below W.heap.size W W' := by
  match vs, h with
  | [v0, v1, v2], h =>
    obtain ⟨h0, h1, h2, _⟩ := h
    obtain ⟨cs, rfl, g0⟩ := h0
    obtain ⟨A, n, c, ent, s, f, hc, hn, e0, e1, hr, hf⟩ := start_inv g0
    obtain ⟨inp, rfl, hs⟩ := h1.str_inv
    obtain ⟨PA, np, pc, PV, rfl, hl, hm, hbp, hpr⟩ := h2.slice_inv
    obtain ⟨pf, hf1, hf2, hf3⟩ := Gen.rows_int hpr
    unfold reachBytes at hs hbp
    rw [hc]
    by_cases hb : mgood n ent
    · refine mpieces_yes A n c ent s W hT e0 hb f hf hr inp hs PA np pc pf (by omega) (fun i => ?_) (fun hn0 => ?_)
      · rcases Nat.lt_or_ge i pc with g | g
        · have := bounds_i64 (hf2 i g); omega
        · rw [hf3 i g]; decide
      · obtain ⟨b, off, h3, h4, h5⟩ := hf1 (by omega)
        exact ⟨b, off, h3, h4, fun i hi => h5 i (by omega)⟩
    · exact mpieces_bad A n c ent s W hT e0 e1 hn hb f hr inp PA np pc
end Go.Proofs.YtgcknekhimpfkaaDoor
