/- Symbols are written in their one form, whose sum is their key: the law's walk. -/
import Derived.Test.YtgemnmceflcpcaaSbE
namespace Go.Proofs.Ytgemnmceflcpcaa
open Go Go.RowKit Go.Lib Go.Proofs.Ytgemnmceflcpcaa.Sy
set_option linter.unusedVariables false
set_option linter.unusedSimpArgs false
attribute [local go_sem ↓] exec_load_const exec_store_const exec_load_var exec_store_var exec_load_proc exec_store_proc exec_load_sym exec_store_sym
theorem SmAt.onesR {w : World} {s : Sm} {cv vv pv : Value} (h : SmAt w s cv vv pv) : OneRow (scells s cv vv pv) := by
  have c3 : pv.oneCell' = true := by obtain ⟨pvs, _, h, _⟩ := h.p; exact h.one
  exact scells_one s h.c.1.one h.v.1.one c3
theorem SmArg.below {w w' : World} {s : Sm} {cv vv pv : Value} (h : SmArg w s cv vv pv) (b : Below w.heap.size w w') : SmArg w' s cv vv pv := by
  refine ⟨h.name, h.c.below b, h.v.below b, ?_, h.ca, h.va, h.pa⟩
  obtain ⟨pvs, h1, h2, h3⟩ := h.p
  exact ⟨pvs, h1, h2.below b, fun k p pv hp hv => ⟨⟨(h3 k p pv hp hv).1.1, (h3 k p pv hp hv).1.2.1, (h3 k p pv hp hv).1.2.2.below b⟩, (h3 k p pv hp hv).2⟩⟩
/-- What the two Encodes answer, in one; what the two Keys answer. -/
def AnsP (L : List Int) (er : Int) (w : World) (e : Ending) (w' : World) : Prop := ∃ v, e = .returned (.tuple #[v, .int .i64 er]) ∧ OwnB w' w.heap.size v L ∧ Below w.heap.size w w'
structure AnsOf (q : Bool) (s : Sm) (L : List Int) (er sm : Int) : Prop where
  bytes : L = if q then symB s else []
  err : er = if q then 0 else 130
  sum : sm = if q then sumL (symB s) else 0
theorem rencode_q {w : World} (s : Sm) {cv vv pv : Value} (hS : SmAt w s cv vv pv) {q : Bool} (hc : IsB q (smOk s)) {L : List Int} {er sm : Int} (h : AnsOf q s L er sm) : Calls Try.prog 12 #[.agg (scells s cv vv pv)] w (AnsP L er w) := by
  rw [h.bytes, h.err]
  cases q with
  | false => exact rencode_no s hS (fun h => by cases hc.yes h)
  | true => exact rencode_yes s hS (hc.iff.1 rfl)
theorem encode_q {w : World} (s : Sm) {cv vv pv : Value} (hS : SmAt w s cv vv pv) {q : Bool} (hc : IsB q (smOk s)) {L : List Int} {er sm : Int} (h : AnsOf q s L er sm) : Calls Try.prog 11 #[.agg (scells s cv vv pv)] w (AnsP L er w) := by
  rw [h.bytes, h.err]
  cases q with
  | false => exact encode_no s hS (fun h => by cases hc.yes h)
  | true => exact encode_yes s hS (hc.iff.1 rfl)
theorem rkey_q {w : World} (s : Sm) {cv vv pv : Value} (hS : SmAt w s cv vv pv) {q : Bool} (hc : IsB q (smOk s)) {L : List Int} {er sm : Int} (h : AnsOf q s L er sm) : Calls Try.prog 14 #[.agg (scells s cv vv pv)] w fun e w' => e = .returned (.tuple #[.int .u32 sm, .int .i64 er]) ∧ Below w.heap.size w w' := by
  rw [h.sum, h.err]; exact rkey_any s hS hc
theorem key_q {w : World} (s : Sm) {cv vv pv : Value} (hS : SmAt w s cv vv pv) {q : Bool} (hc : IsB q (smOk s)) {L : List Int} {er sm : Int} (h : AnsOf q s L er sm) : Calls Try.prog 13 #[.agg (scells s cv vv pv)] w fun e w' => e = .returned (.tuple #[.int .u32 sm, .int .i64 er]) ∧ Below w.heap.size w w' := by
  rw [h.sum, h.err]; exact key_any s hS hc
section
variable {w : World}
set_option maxHeartbeats 8000000 in
set_option maxRecDepth 100000 in
theorem symbytes_any (s : Sm) {cv vv pv : Value} (hA : SmArg w s cv vv pv) :
    Calls Try.prog 3 #[.agg (scells s cv vv pv)] w fun e w' => e = .returned (.bool true) ∧ Below w.heap.size w w' := by
  obtain ⟨q, hq⟩ := boolOf (smOk s)
  have h1 := hA.at.onesR
  have HQ := Lib.hid hq
  obtain ⟨L, er, sm, hans⟩ : ∃ L er sm, AnsOf q s L er sm := ⟨_, _, _, rfl, rfl, rfl⟩
  have HN := Lib.hid hans
  have HS := Lib.hid hA
  have HB0 := Lib.hid ((Below.refl w.heap.size w).alloc (Nat.le_refl _) (.cells (scells s cv vv pv) 26))
  have KX0 := Lib.hid (Blk.new w (scells s cv vv pv) 26)
  clear hq hA hans
  go_enter Try.func3, Try.ntmps3
  go_upto_region 1 with fail
  clear h1
  generalize w.alloc (.cells (scells s cv vv pv) 26) = w0 at HB0 KX0 ⊢
  go_wp2_with fail
  refine (shown_any (w := w0)).mono ?_
  rintro e w1 ⟨rfl, hb⟩
  have HB1 := Lib.hid (HB0.out.trans (hb.mono HB0.out.size))
  have KX1 := Lib.hid (KX0.out.step hb)
  clear hb HB0 KX0
  have l1 := load_blk Try.underlying26 rfl sz_sym KX1.out rfl
  go_wp2_with fail
  refine (copied_any s (HS.out.below HB1.out)).mono ?_
  rintro e w2 ⟨cu, vu, pu, rfl, hs, hb⟩
  have hst := store_blk_new w2 zSym (scells s cu vu pu) 26 sz_sym rfl rfl hs.onesR
  have KX3 := Lib.hid ((KX1.out.step hb).old (.cells (scells s cu vu pu) 26))
  have KT3 := Lib.hid (Blk.new w2 (scells s cu vu pu) 26)
  have HB2 := Lib.hid (HB1.out.trans (hb.mono HB1.out.size))
  have HB3 := Lib.hid (HB2.out.alloc HB2.out.size (.cells (scells s cu vu pu) 26))
  have HT3 := Lib.hid (hs.below ((Below.refl _ w2).alloc (Nat.le_refl _) (.cells (scells s cu vu pu) 26)))
  clear hs hb HB1 KX1 HB2 l1
  go_upto_region 3 with fail
  clear hst
  generalize w2.heap.size = gt at KT3 ⊢
  generalize w2.alloc (.cells (scells s cu vu pu) 26) = w3 at KX3 KT3 HB3 HT3 ⊢
  have l1 := load_blk Try.underlying26 rfl sz_sym KT3.out rfl
  go_wp2_with fail
  refine (right_any s HT3.out HQ.out).mono ?_
  rintro e w4 ⟨rfl, hb⟩
  have KX4 := Lib.hid (KX3.out.step hb)
  have KT4 := Lib.hid (KT3.out.step hb)
  have HB4 := Lib.hid (HB3.out.trans (hb.mono HB3.out.size))
  have HT4 := Lib.hid (HT3.out.below hb)
  clear hb KX3 KT3 HB3 HT3 l1
  have l1 := load_blk Try.underlying26 rfl sz_sym KT4.out rfl
  go_wp2_with fail
  refine (encode_q s HT4.out HQ.out HN.out).mono ?_
  rintro e w5 ⟨v5, rfl, ho, hb⟩
  obtain ⟨A5, c5, rfl, _⟩ := bytes_form (own_bytes ho)
  have KX5 := Lib.hid (KX4.out.step hb)
  have KT5 := Lib.hid (KT4.out.step hb)
  have HB5 := Lib.hid (HB4.out.trans (hb.mono HB4.out.size))
  have HT5 := Lib.hid (HT4.out.below hb)
  have HV5 := Lib.hid (own_bytes ho)
  clear ho hb KX4 KT4 HB4 HT4 l1
  have l1 := load_blk Try.underlying26 rfl sz_sym KX5.out rfl
  go_wp2_with fail
  refine (rencode_q s (HS.out.below HB5.out).at HQ.out HN.out).mono ?_
  rintro e w6 ⟨v6, rfl, ho, hb⟩
  obtain ⟨A6, c6, rfl, _⟩ := bytes_form (own_bytes ho)
  have KX6 := Lib.hid (KX5.out.step hb)
  have KT6 := Lib.hid (KT5.out.step hb)
  have HB6 := Lib.hid (HB5.out.trans (hb.mono HB5.out.size))
  have HT6 := Lib.hid (HT5.out.below hb)
  have HV6 := Lib.hid (HV5.out.below hb)
  have HU6 := Lib.hid (own_bytes ho)
  clear ho hb KX5 KT5 HB5 HT5 HV5 l1
  have l1 := load_blk Try.underlying26 rfl sz_sym KT6.out rfl
  go_wp2_with fail
  refine (key_q s HT6.out HQ.out HN.out).mono ?_
  rintro e w7 ⟨rfl, hb⟩
  have KX7 := Lib.hid (KX6.out.step hb)
  have KT7 := Lib.hid (KT6.out.step hb)
  have HB7 := Lib.hid (HB6.out.trans (hb.mono HB6.out.size))
  have HT7 := Lib.hid (HT6.out.below hb)
  have HV7 := Lib.hid (HV6.out.below hb)
  have HU7 := Lib.hid (HU6.out.below hb)
  clear hb KX6 KT6 HB6 HT6 HV6 HU6 l1
  have l1 := load_blk Try.underlying26 rfl sz_sym KX7.out rfl
  go_wp2_with fail
  refine (rkey_q s (HS.out.below HB7.out).at HQ.out HN.out).mono ?_
  rintro e w8 ⟨rfl, hb⟩
  have KX8 := Lib.hid (KX7.out.step hb)
  have KT8 := Lib.hid (KT7.out.step hb)
  have HB8 := Lib.hid (HB7.out.trans (hb.mono HB7.out.size))
  have HT8 := Lib.hid (HT7.out.below hb)
  have HV8 := Lib.hid (HV7.out.below hb)
  have HU8 := Lib.hid (HU7.out.below hb)
  clear hb KX7 KT7 HB7 HT7 HV7 HU7 l1
  go_upto_region 8 with fail
  have l1 := load_blk Try.underlying26 rfl sz_sym KT8.out rfl
  have l2 := load_blk Try.underlying26 rfl sz_sym KX8.out rfl
  have H1 := Lib.hid (same_any s HT8.out (HS.out.below HB8.out).at)
  go_wp2_with (first
    | (go_at_call 16; refine (rright_any s (HS.out.below HB9.out).at HQ.out).mono ?_; rintro e wz ⟨rfl, hb⟩; have HBz := Lib.hid (HB9.out.trans (hb.mono HB9.out.size)); have cv1 := conv_at (HV9.out.below hb); have cv2 := conv_at (HU9.out.below hb); clear hb)
    | (go_at_call 15; refine H1.out.mono ?_; rintro e w9 ⟨rfl, hb⟩; have KX9 := Lib.hid (KX8.out.step hb); have HB9 := Lib.hid (HB8.out.trans (hb.mono HB8.out.size)); have HV9 := Lib.hid (HV8.out.below hb); have HU9 := Lib.hid (HU8.out.below hb); clear hb l1 l2; have l3 := load_blk Try.underlying26 rfl sz_sym KX9.out rfl))
  go_ret
  exact ⟨rfl, HBz.out⟩

end
def symBytesAts : List Gen.AT := [.agg [.str, .slice 56 [.str, .int .i64, .int .i64, .str, .bool], .slice 40 [.str, .int .i64, .int .i64, .bool, .bool], .slice 48 [.str, .slice 40 [.str, .int .i64, .int .i64, .bool, .bool], .int .i64]]]
theorem symBytes_args (W : World) (vs : List Value) (h : Gen.ArgsGood W symBytesAts vs) :
    Calls Try.prog 3 vs.toArray W fun e W' => e = .returned (.bool true) ∧ Below W.heap.size W W' := by
  match vs, h with
  | [v0], h =>
    obtain ⟨s, cv, vv, pv, rfl, hS⟩ := good_symarg h.1
    exact symbytes_any s hS
end Go.Proofs.Ytgemnmceflcpcaa
