/- What is read is written as the same bytes: the law's walk. -/
import Derived.Test.YtgemnmceflcpcaaSdP
import Derived.Test.YtgemnmceflcpcaaQH
import Derived.Test.YtgemnmceflcpcaaSyX
import Derived.Test.YtgemnmceflcpcaaGen
namespace Go.Proofs.Ytgemnmceflcpcaa
open Go Go.RowKit Go.Lib Go.Proofs.Ytgemnmceflcpcaa.Sy
set_option linter.unusedVariables false
set_option linter.unusedSimpArgs false
attribute [local go_sem ↓] exec_load_const exec_store_const exec_load_var exec_store_var exec_load_proc exec_store_proc exec_load_sym exec_store_sym
theorem dec_exists (l : List Int) : ∃ s p er, DecAns l s p er := by
  by_cases h : headOk l
  · cases hk : (readS l).2.ok with
    | false => exact ⟨_, _, _, .wrong h hk⟩
    | true =>
      by_cases hn : smOk (readS l).1
      · exact ⟨_, _, _, .right h hk hn⟩
      · exact ⟨_, _, _, .form h hk hn⟩
  · exact ⟨_, _, _, .head h⟩
theorem dec_none {l : List Int} {s : Sm} {p er : Int} (h : DecAns l s p er) (he : er ≠ 0) : s = noSym := by
  cases h with
  | head => rfl
  | wrong => rfl
  | form => rfl
  | right => exact absurd rfl he
theorem SmOwn.ones {w : World} {B : Nat} {s : Sm} {cv vv pv : Value} {pvs : List Value} (h : SmOwn w B s cv vv pv pvs) : OneRow (scells s cv vv pv) := scells_one s h.c.one h.v.one h.p.own.one
theorem nil_at (w : World) : SmAt w noSym (.slice none 0 0) (.slice none 0 0) (.slice none 0 0) := (noSym_own w 0).at
section
variable {w : World} {l : List Int}
theorem decode_any {v : Value} (hF : BytesAt w v l) (ho : Oct l) : Calls Try.prog 18 #[v] w (DecP l w) := by
  by_cases h : headOk l
  · exact decode_body hF ho h
  · exact decode_head hF ho h
theorem decode_is {v : Value} (hF : BytesAt w v l) (ho : Oct l) {s : Sm} {p er : Int} (hA : DecAns l s p er) :
    Calls Try.prog 18 #[v] w fun e w' => ∃ cv vv pv pvs, e = .returned (.tuple #[.agg (scells s cv vv pv), .int .i64 p, .int .i64 er]) ∧ SmOwn w' w.heap.size s cv vv pv pvs ∧ Below w.heap.size w w' :=
  (decode_any hF ho).mono fun e w' ⟨s', p', er', cv, vv, pv, pvs, he, hd, hs, hb⟩ => by
    obtain ⟨rfl, rfl, rfl⟩ := hd.same hA
    exact ⟨cv, vv, pv, pvs, he, hs, hb⟩
theorem encode_ok (s : Sm) {cv vv pv : Value} (hS : SmAt w s cv vv pv) (hc : smOk s) :
    Calls Try.prog 11 #[.agg (scells s cv vv pv)] w fun e w' => ∃ v, e = .returned (.tuple #[v, .int .i64 0]) ∧ OwnB w' w.heap.size v (symB s) ∧ Below w.heap.size w w' :=
  (encode_yes s hS hc).mono fun e w' ⟨v, he, ho, hb⟩ => ⟨v, by rw [he]; rfl, by rw [if_pos rfl] at ho; exact ho, hb⟩
theorem encode_bad (s : Sm) {cv vv pv : Value} (hS : SmAt w s cv vv pv) (hc : ¬ smOk s) :
    Calls Try.prog 11 #[.agg (scells s cv vv pv)] w fun e w' => ∃ v, e = .returned (.tuple #[v, .int .i64 130]) ∧ OwnB w' w.heap.size v [] ∧ Below w.heap.size w w' :=
  (encode_no s hS hc).mono fun e w' ⟨v, he, ho, hb⟩ => ⟨v, by rw [he]; rfl, by rw [if_neg (by decide)] at ho; exact ho, hb⟩
set_option maxHeartbeats 4000000 in
set_option maxRecDepth 100000 in
theorem oneform_any {v : Value} (hF : BytesAt w v l) (ho : Oct l) :
    Calls Try.prog 6 #[v] w fun e w' => e = .returned (.bool true) ∧ Below w.heap.size w w' := by
  obtain ⟨s, p, er, hA⟩ := dec_exists l
  have HF := Lib.hid hF
  have HO := Lib.hid ho
  have HA := Lib.hid hA
  by_cases he : er = 0
  · subst he
    obtain ⟨rfl, hok, hl⟩ := dec_bytes ho hA
    have HK := Lib.hid hok
    have HOS := Lib.hid (oct_sym hok)
    subst hl
    obtain ⟨A, cap, rfl, _⟩ := bytes_form hF
    clear hF ho hA hok
    go_enter Try.func6, Try.ntmps6
    go_wp2_with fail
    refine (shown_any (w := w)).mono ?_
    rintro e w1 ⟨rfl, hb1⟩
    have HB1 := Lib.hid hb1
    clear hb1
    go_wp2_with fail
    refine (decode_is (HF.out.below HB1.out) HO.out HA.out).mono ?_
    rintro e w2 ⟨cv, vv, pv, pvs, rfl, hs, hb⟩
    have HS2 := Lib.hid hs
    have HB2 := Lib.hid (HB1.out.trans (hb.mono HB1.out.size))
    have hst := store_blk_new w2 zSym (scells s cv vv pv) 26 sz_sym rfl rfl hs.ones
    have KS3 := Lib.hid (Blk.new w2 (scells s cv vv pv) 26)
    have HB3 := Lib.hid (HB2.out.alloc HB2.out.size (.cells (scells s cv vv pv) 26))
    have HS3 := Lib.hid (hs.below ((Below.refl _ w2).alloc (Nat.le_refl _) (.cells (scells s cv vv pv) 26)))
    clear hs hb
    go_upto_region 5 with fail
    clear hst
    generalize w2.heap.size = gs at KS3 ⊢
    generalize w2.alloc (.cells (scells s cv vv pv) 26) = w3 at KS3 HB3 HS3 ⊢
    have hl3 := load_blk Try.underlying26 rfl sz_sym KS3.out rfl
    go_wp2_with fail
    refine (encode_ok s HS3.out.at HK.out).mono ?_
    rintro e w4 ⟨c, rfl, hc, hb⟩
    have HC4 := Lib.hid (own_bytes hc)
    have KS4 := Lib.hid (KS3.out.step hb)
    have HS4 := Lib.hid (HS3.out.below hb)
    have HB4 := Lib.hid (HB3.out.trans (hb.mono HB3.out.size))
    obtain ⟨A4, cap4, rfl, _⟩ := bytes_form (own_bytes hc)
    have hl4 := load_blk Try.underlying26 rfl sz_sym KS4.out rfl
    clear hl3 hc hb KS3 HS3 HB3
    go_upto_region 7 with (go_at_call 10; refine (right_any s HS4.out.at (q := true) ⟨fun _ => HK.out, fun _ => rfl⟩).mono ?_; rintro e w5 ⟨rfl, hb⟩; have HC5 := Lib.hid (HC4.out.below hb); have HB5 := Lib.hid (HB4.out.trans (hb.mono HB4.out.size)); clear hb)
    have hcv1 := conv_at HC5.out
    have hcv2 := conv_at (HF.out.below HB5.out)
    go_wp2_with fail
    go_ret
    exact ⟨rfl, HB5.out⟩
  · have he1 : (er != 0) = true := by simpa using he
    have he2 : (er == 0) = false := by simpa using he
    obtain rfl := dec_none hA he
    obtain ⟨A, cap, rfl, _⟩ := bytes_form hF
    clear hF ho hA he
    go_enter Try.func6, Try.ntmps6
    go_wp2_with fail
    refine (shown_any (w := w)).mono ?_
    rintro e w1 ⟨rfl, hb1⟩
    have HB1 := Lib.hid hb1
    clear hb1
    go_wp2_with fail
    refine (decode_is (HF.out.below HB1.out) HO.out HA.out).mono ?_
    rintro e w2 ⟨cv, vv, pv, pvs, rfl, hs, hb⟩
    have HB2 := Lib.hid (HB1.out.trans (hb.mono HB1.out.size))
    have hst := store_blk_new w2 zSym (scells noSym cv vv pv) 26 sz_sym rfl rfl hs.ones
    have KS3 := Lib.hid (Blk.new w2 (scells noSym cv vv pv) 26)
    have HB3 := Lib.hid (HB2.out.alloc HB2.out.size (.cells (scells noSym cv vv pv) 26))
    have HS3 := Lib.hid (hs.below ((Below.refl _ w2).alloc (Nat.le_refl _) (.cells (scells noSym cv vv pv) 26)))
    have hl3 := load_blk Try.underlying26 rfl sz_sym KS3.out rfl
    clear hs hb
    go_wp2_with fail
    refine (same_any noSym HS3.out.at (nil_at _)).mono ?_
    rintro e w4 ⟨rfl, hb⟩
    have HB4 := Lib.hid (HB3.out.trans (hb.mono HB3.out.size))
    clear hb
    go_wp2_with fail
    go_ret
    exact ⟨rfl, HB4.out⟩
end
theorem good_bytes {w : World} {v : Value} {b : Nat} (h : Gen.Good w (.slice b [.int .u8]) v) : ∃ l, BytesAt w v l ∧ Oct l ∧ ∃ A cap, v = .slice A l.length cap ∧ cap * b ≤ reachBytes ∧ l.length ≤ cap := by
  obtain ⟨A, len, cap, V, rfl, hl, hm, hb, hr⟩ := h.slice_inv
  have h0 : ∀ i, i < cap → ∃ n, V i 0 = .int .u8 n ∧ (Lit.int .u8 n).wf = true := fun i hi => (hr.2 i 0 _ hi rfl).int_inv
  refine ⟨(List.range len).map fun i => intOf (V i 0), ⟨A, cap, by simp, by simpa using hl, hm, fun k r hk => ?_⟩, fun x hx => ?_, A, cap, by simp, hb, by simpa using hl⟩
  · rw [List.getElem?_map, List.getElem?_map] at hk
    have hkl : k < len := by
      rcases Nat.lt_or_ge k len with h | h
      · exact h
      · rw [List.getElem?_eq_none (by simpa using h)] at hk; cases hk
    rw [List.getElem?_range hkl] at hk
    cases hk
    obtain ⟨b', off, rfl, hlt, hc⟩ := hr.1 (by omega) (by simp)
    refine ⟨b', off, rfl, hlt, fun j u hu => ?_⟩
    obtain ⟨n, e0, _⟩ := h0 k (by omega)
    have hj : j = 0 := by have := (List.getElem?_eq_some_iff.1 hu).1; simp at this; omega
    subst hj
    have := hc k 0 (by omega) (by simp)
    have hu : [encB (intOf (V k 0))][0]? = some u := hu
    rw [e0] at this hu
    simp only [List.length_singleton] at this
    rw [Nat.add_assoc, this]; exact hu
  · obtain ⟨i, hi, rfl⟩ := List.mem_map.1 hx
    have hi := List.mem_range.1 hi
    obtain ⟨n, e0, hw⟩ := h0 i (by omega)
    rw [e0]
    exact (Lit.wf_int_iff _ _).1 hw
def symOneFormAts : List Gen.AT := [.one (.slice 1 [.int .u8])]
theorem symOneForm_args (W : World) (vs : List Value) (h : Gen.ArgsGood W symOneFormAts vs) :
    Calls Try.prog 6 vs.toArray W fun e W' => e = .returned (.bool true) ∧ Below W.heap.size W W' := by
  match vs, h with
  | [v0], h =>
    obtain ⟨l, hF, ho, _⟩ := good_bytes h.1
    exact oneform_any hF ho
end Go.Proofs.Ytgemnmceflcpcaa
