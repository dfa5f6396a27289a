/- Symbols are read from their bytes, from no longer or shorter ones: the law's walk. -/
import Derived.Test.YtgemnmceflcpcaaSdT
namespace Go.Proofs.Ytgemnmceflcpcaa
open Go Go.RowKit Go.Lib Go.Proofs.Ytgemnmceflcpcaa.Sy
set_option linter.unusedVariables false
set_option linter.unusedSimpArgs false
attribute [local go_sem ↓] exec_load_const exec_store_const exec_load_var exec_store_var exec_load_proc exec_store_proc exec_load_sym exec_store_sym
theorem sym_len0 (s : Sm) : 4 ≤ (symB s).length := by unfold symB; simp only [List.length_append, List.length_cons, List.length_nil]; omega
theorem SmAt.ones {w : World} {s : Sm} {cv vv pv : Value} (h : SmAt w s cv vv pv) : OneRow (scells s cv vv pv) := by
  have c3 : pv.oneCell' = true := by obtain ⟨pvs, _, h, _⟩ := h.p; exact h.one
  exact scells_one s h.c.1.one h.v.1.one c3
theorem nil_own_form {w : World} {B : Nat} {v : Value} (h : OwnB w B v []) : ∃ A c, v = .slice A 0 c := by
  obtain ⟨A, c, e, _⟩ := bytes_form (own_bytes h); exact ⟨A, c, e⟩
section
variable {w : World}
set_option maxHeartbeats 4000000 in
set_option maxRecDepth 100000 in
theorem back_no (s : Sm) {cv vv pv : Value} (hS : SmAt w s cv vv pv) (hc : ¬ smOk s) (cut : Int) (v2 : Value) :
    Calls Try.prog 7 #[.agg (scells s cv vv pv), .int .i64 cut, v2] w fun e w' => e = .returned (.bool true) ∧ Below w.heap.size w w' := by
  have h1 := hS.ones
  have HB0 := Lib.hid ((Below.refl w.heap.size w).alloc (Nat.le_refl _) (.cells (scells s cv vv pv) 26))
  have KX0 := Lib.hid (Blk.new w (scells s cv vv pv) 26)
  have HC := Lib.hid hc
  have HS := Lib.hid hS
  clear hS hc
  go_enter Try.func7, Try.ntmps7
  go_upto_region 1 with fail
  generalize w.alloc (.cells (scells s cv vv pv) 26) = w0 at HB0 KX0 ⊢
  go_wp2_with fail
  refine (shown_any (w := w0)).mono ?_
  rintro e w1 ⟨rfl, hb⟩
  have HB1 := Lib.hid (HB0.out.trans (hb.mono HB0.out.size))
  have KX1 := Lib.hid (KX0.out.step hb)
  clear hb
  have hl1 := load_blk Try.underlying26 rfl sz_sym KX1.out rfl
  go_wp2_with fail
  refine (right_any s (HS.out.below HB1.out) (q := false) ⟨(fun h => by cases h), fun h => absurd h HC.out⟩).mono ?_
  rintro e w2 ⟨rfl, hb⟩
  have HB2 := Lib.hid (HB1.out.trans (hb.mono HB1.out.size))
  have KX2 := Lib.hid (KX1.out.step hb)
  clear hb hl1
  have hl2 := load_blk Try.underlying26 rfl sz_sym KX2.out rfl
  go_wp2_with fail
  refine (encode_bad s (HS.out.below HB2.out) HC.out).mono ?_
  rintro e w3 ⟨v3, rfl, ho, hb⟩
  obtain ⟨A3, c3, rfl⟩ := nil_own_form ho
  have HB3 := Lib.hid (HB2.out.trans (hb.mono HB2.out.size))
  clear ho hb hl2
  go_wp2_with fail
  go_ret
  exact ⟨rfl, HB3.out⟩
set_option maxHeartbeats 8000000 in
set_option maxRecDepth 100000 in
theorem back_yes (s : Sm) {cv vv pv : Value} (hS : SmAt w s cv vv pv) (hc : smOk s) (cut : Int) {A2 : Option Addr} {c2 : Nat} {l2 : List Int} (hF : BytesAt w (.slice A2 l2.length c2) l2) (ho : Oct l2) (hz2 : A2 = none → c2 = 0) (hl2 : l2.length ≤ 140737488351232) :
    Calls Try.prog 7 #[.agg (scells s cv vv pv), .int .i64 cut, .slice A2 l2.length c2] w fun e w' => e = .returned (.bool true) ∧ Below w.heap.size w w' := by
  have h1 := hS.ones
  have HB0 := Lib.hid ((Below.refl w.heap.size w).alloc (Nat.le_refl _) (.cells (scells s cv vv pv) 26))
  have KX0 := Lib.hid (Blk.new w (scells s cv vv pv) 26)
  have HC := Lib.hid hc
  have HS := Lib.hid hS
  have HF := Lib.hid hF
  have HO := Lib.hid ho
  have HZ2 := Lib.hid hz2
  have HL := Lib.hid (symB_len hc)
  have HL0 := Lib.hid (sym_len0 s)
  have HOS := Lib.hid (oct_sym hc)
  have HA := Lib.hid (show DecAns (symB s) s 0 0 by
    obtain ⟨s', p, er, h⟩ := dec_exists (symB s)
    obtain ⟨rfl, rfl, rfl⟩ := dec_sym hc h
    exact h)
  obtain ⟨s9, p9, e9, hA9⟩ := dec_exists (symB s ++ l2)
  have HA9 := Lib.hid hA9
  have HE9 := Lib.hid (show (l2 = [] ∧ e9 = 0) ∨ (l2 ≠ [] ∧ e9 = 131) by
    by_cases h : l2 = []
    · subst h
      rw [List.append_nil] at hA9
      exact .inl ⟨rfl, (dec_sym hc hA9).2.2⟩
    · exact .inr ⟨h, dec_more hc h hA9⟩)
  have hmk := fun W => mk_roomB (symB s).length (by have := HL.out; omega) W
  clear hS hc hF ho hz2 hA9
  go_enter Try.func7, Try.ntmps7
  go_upto_region 1 with fail
  generalize w.alloc (.cells (scells s cv vv pv) 26) = w0 at HB0 KX0 ⊢
  go_wp2_with fail
  refine (shown_any (w := w0)).mono ?_
  rintro e w1 ⟨rfl, hb⟩
  have HB1 := Lib.hid (HB0.out.trans (hb.mono HB0.out.size))
  have KX1 := Lib.hid (KX0.out.step hb)
  clear hb
  have ld1 := load_blk Try.underlying26 rfl sz_sym KX1.out rfl
  go_wp2_with fail
  refine (right_any s (HS.out.below HB1.out) (q := true) ⟨fun _ => HC.out, fun _ => rfl⟩).mono ?_
  rintro e w2 ⟨rfl, hb⟩
  have HB2 := Lib.hid (HB1.out.trans (hb.mono HB1.out.size))
  have KX2 := Lib.hid (KX1.out.step hb)
  clear hb ld1
  have ld2 := load_blk Try.underlying26 rfl sz_sym KX2.out rfl
  go_wp2_with fail
  refine (encode_ok s (HS.out.below HB2.out) HC.out).mono ?_
  rintro e w3 ⟨v3, rfl, hv3, hb⟩
  have HB3 := Lib.hid (HB2.out.trans (hb.mono HB2.out.size))
  have KX3 := Lib.hid (KX2.out.step hb)
  have HV3 := Lib.hid (own_bytes hv3)
  obtain ⟨A3, c3, rfl, hc3, hm3, hr3⟩ := bytes_form (own_bytes hv3)
  obtain ⟨b3, o3, rfl, _⟩ := hr3 (by have := HL0.out; omega)
  unfold maxLen at hm3
  clear hv3 hb ld2 hr3
  go_wp2_with fail
  refine (decode_is HV3.out HOS.out HA.out).mono ?_
  rintro e w4 ⟨ct, vt, pt, pts, rfl, hs, hb⟩
  have hst := store_blk_new w4 zSym (scells s ct vt pt) 26 sz_sym rfl rfl hs.ones
  have KT5 := Lib.hid (Blk.new w4 (scells s ct vt pt) 26)
  have HB4 := Lib.hid (HB3.out.trans (hb.mono HB3.out.size))
  have KX5 := Lib.hid ((KX3.out.step hb).old (.cells (scells s ct vt pt) 26))
  have HV5 := Lib.hid ((HV3.out.below hb).below ((Below.refl _ w4).alloc (Nat.le_refl _) (.cells (scells s ct vt pt) 26)))
  have HT5 := Lib.hid (hs.below ((Below.refl _ w4).alloc (Nat.le_refl _) (.cells (scells s ct vt pt) 26)))
  have HB5 := Lib.hid (HB4.out.alloc HB4.out.size (.cells (scells s ct vt pt) 26))
  clear hs hb KX3 HV3 HB4
  go_upto_region 7 with fail
  clear hst
  generalize w4.heap.size = gt at KT5 ⊢
  generalize w4.alloc (.cells (scells s ct vt pt) 26) = w5 at KT5 KX5 HV5 HT5 HB5 ⊢
  have HO6 := Lib.hid (roomB_own w5 (symB s).length (by have := HL.out; unfold maxLen; omega))
  have HB6 := Lib.hid ((Below.refl w5.heap.size w5).alloc (Nat.le_refl _) (.cells (madeCells #[.int .u8 0] (symB s).length) 5))
  have HV6 := Lib.hid (HV5.out.below HB6.out)
  go_wp2_with (at_builtin; go_must (refine list_appV rfl _ _ rfl (by rfl) HO6.out (A := some ⟨b3, o3, none⟩) (m := (symB s).length) (c := c3) (by rfl) HV6.out (fun h => by cases h) ?c1 ?c2 ?_))
  case c1 => have := HL.out; simp; omega
  case c2 => simp
  intro v7 w7 ho7 ht7
  have HO7 := Lib.hid (show OwnB w7 w5.heap.size v7 (symB s) from ho7)
  have HB7 := Lib.hid (own_touch_below HO6.out HB6.out ht7)
  have HF7 := Lib.hid (((HF.out.below HB5.out).below HB7.out))
  clear ho7 ht7 HO6 HB6 HV6
  go_wp2_with (at_builtin; go_must (refine list_appV rfl _ _ rfl (v := v7) (by rfl) HO7.out (A := A2) (m := l2.length) (c := c2) (by rfl) HF7.out HZ2.out ?d1 ?d2 ?_))
  case d1 => have := HL.out; omega
  case d2 => exact HB7.out.size
  intro v8 w8 ho8 ht8
  have HV8 := Lib.hid (own_bytes ho8)
  have HB8 := Lib.hid (own_touch_below HO7.out HB7.out ht8)
  clear ho8 ht8 HO7 HB7 HF7
  go_wp2_with fail
  refine (decode_is HV8.out (HOS.out.app HO.out) HA9.out).mono ?_
  rintro e w9 ⟨cu, vu, pu, pus, rfl, hs, hb⟩
  have hst := store_blk_new w9 zSym (scells s9 cu vu pu) 26 sz_sym rfl rfl hs.ones
  have HB9 := Lib.hid ((HB8.out.trans (hb.mono HB8.out.size)).alloc (by have := hb.size; have := HB8.out.size; omega) (.cells (scells s9 cu vu pu) 26))
  clear hs hb
  go_upto_region 9 with fail
  clear hst
  generalize w9.alloc (.cells (scells s9 cu vu pu) 26) = wa at HB9 ⊢
  have KXa := Lib.hid (KX5.out.step HB9.out)
  have KTa := Lib.hid (KT5.out.step HB9.out)
  have HTa := Lib.hid (HT5.out.below HB9.out)
  have HBa := Lib.hid (HB5.out.trans (HB9.out.mono HB5.out.size))
  have HVa := Lib.hid (HV5.out.below HB9.out)
  clear KX5 KT5 HT5 HB5 HV5 HB9 HB8 HV8
  by_cases hin : 0 ≤ cut ∧ cut < (symB s).length
  · obtain ⟨k, rfl⟩ := Int.eq_ofNat_of_zero_le hin.1
    have hk : k < (symB s).length := by omega
    obtain ⟨_, _, e, _, _, hrv⟩ := bytes_form HVa.out
    cases e
    obtain ⟨_, _, e, hbv, hcv⟩ := hrv (by omega)
    cases e
    have HVk := Lib.hid (show BytesAt wa (.slice (some ⟨b3, o3, none⟩) k c3) ((symB s).take k) from bytes_cut hbv hcv (by unfold maxLen; omega) 0 k (by omega) hc3)
    obtain ⟨sk, pk, ek, hAk⟩ := dec_exists ((symB s).take k)
    have hne := dec_less HC.out hk hAk
    have he1 : (ek != 0) = true := by simpa using hne
    have he2 : (ek == 0) = false := by simpa using hne
    have HAk := Lib.hid hAk
    have hki : (k : Int) < ((symB s).length : Int) := by omega
    have hk0 : (0 : Int) ≤ (k : Int) := by omega
    clear hin hrv hbv hcv hAk hne
    go_upto_region 11 with (go_at_call 18; refine (decode_is HVk.out (oct_take HOS.out k) HAk.out).mono ?_; rintro e wb ⟨cx, vx, px, pxs, rfl, _, hb⟩; have HBW := Lib.hid hb; clear hb)
    have KXb := Lib.hid (KXa.out.step HBW.out)
    have KTb := Lib.hid (KTa.out.step HBW.out)
    have HTb := Lib.hid (HTa.out.below HBW.out)
    have HBb := Lib.hid (HBa.out.trans (HBW.out.mono HBa.out.size))
    have lx := load_blk Try.underlying26 rfl sz_sym KXb.out rfl
    have lt := load_blk Try.underlying26 rfl sz_sym KTb.out rfl
    have H1 := Lib.hid (same_any s (HS.out.below HBb.out) HTb.out.at)
    rcases HE9.out with ⟨hn, rfl⟩ | ⟨hn, rfl⟩
    · have hn0 : ((l2.length : Int) == 0) = true := by rw [hn]; rfl
      have hn1 : (l2.length == 0) = true := by rw [hn]; rfl
      have hn2 : l2.length = 0 := by rw [hn]; rfl
      have hn3 := Lib.hid hn
      clear hn
      go_wp2_with (go_at_call 15; refine H1.out.mono ?_; rintro e wz ⟨rfl, hbz⟩; have HBz := Lib.hid (HBb.out.trans (hbz.mono HBb.out.size)); clear hbz)
      go_ret
      exact ⟨ret_bool (by simp [hn3.out]), HBz.out⟩
    · have hp := List.length_pos_iff.2 hn
      have hn0 : ((l2.length : Int) == 0) = false := by simp; omega
      have hn1 : (l2.length == 0) = false := by simp; omega
      have hn3 := Lib.hid hn
      clear hn hp
      go_wp2_with (go_at_call 15; refine H1.out.mono ?_; rintro e wz ⟨rfl, hbz⟩; have HBz := Lib.hid (HBb.out.trans (hbz.mono HBb.out.size)); clear hbz)
      go_ret
      exact ⟨ret_bool (by simp [hn3.out]), HBz.out⟩
  · have hin1 : (decide ((0 : Int) ≤ cut) && decide (cut < ((symB s).length : Int))) = false := by
      rw [← Bool.decide_and]; exact decide_eq_false hin
    have HBW := Lib.hid (Below.refl wa.heap.size wa)
    by_cases h0 : 0 ≤ cut
    · have h1 : ((symB s).length : Int) ≤ cut := by omega
      clear hin hin1
      have KXb := Lib.hid (KXa.out.step HBW.out)
      have KTb := Lib.hid (KTa.out.step HBW.out)
      have HTb := Lib.hid (HTa.out.below HBW.out)
      have HBb := Lib.hid (HBa.out.trans (HBW.out.mono HBa.out.size))
      have lx := load_blk Try.underlying26 rfl sz_sym KXb.out rfl
      have lt := load_blk Try.underlying26 rfl sz_sym KTb.out rfl
      have H1 := Lib.hid (same_any s (HS.out.below HBb.out) HTb.out.at)
      rcases HE9.out with ⟨hn, rfl⟩ | ⟨hn, rfl⟩
      · have hn0 : ((l2.length : Int) == 0) = true := by rw [hn]; rfl
        have hn1 : (l2.length == 0) = true := by rw [hn]; rfl
        have hn2 : l2.length = 0 := by rw [hn]; rfl
        have hn3 := Lib.hid hn
        clear hn
        go_wp2_with (go_at_call 15; refine H1.out.mono ?_; rintro e wz ⟨rfl, hbz⟩; have HBz := Lib.hid (HBb.out.trans (hbz.mono HBb.out.size)); clear hbz)
        go_ret
        exact ⟨ret_bool (by simp [hn3.out]), HBz.out⟩
      · have hp := List.length_pos_iff.2 hn
        have hn0 : ((l2.length : Int) == 0) = false := by simp; omega
        have hn1 : (l2.length == 0) = false := by simp; omega
        have hn3 := Lib.hid hn
        clear hn hp
        go_wp2_with (go_at_call 15; refine H1.out.mono ?_; rintro e wz ⟨rfl, hbz⟩; have HBz := Lib.hid (HBb.out.trans (hbz.mono HBb.out.size)); clear hbz)
        go_ret
        exact ⟨ret_bool (by simp [hn3.out]), HBz.out⟩
    · have h0' : cut < 0 := by omega
      clear hin hin1 h0
      have KXb := Lib.hid (KXa.out.step HBW.out)
      have KTb := Lib.hid (KTa.out.step HBW.out)
      have HTb := Lib.hid (HTa.out.below HBW.out)
      have HBb := Lib.hid (HBa.out.trans (HBW.out.mono HBa.out.size))
      have lx := load_blk Try.underlying26 rfl sz_sym KXb.out rfl
      have lt := load_blk Try.underlying26 rfl sz_sym KTb.out rfl
      have H1 := Lib.hid (same_any s (HS.out.below HBb.out) HTb.out.at)
      rcases HE9.out with ⟨hn, rfl⟩ | ⟨hn, rfl⟩
      · have hn0 : ((l2.length : Int) == 0) = true := by rw [hn]; rfl
        have hn1 : (l2.length == 0) = true := by rw [hn]; rfl
        have hn2 : l2.length = 0 := by rw [hn]; rfl
        have hn3 := Lib.hid hn
        clear hn
        go_wp2_with (go_at_call 15; refine H1.out.mono ?_; rintro e wz ⟨rfl, hbz⟩; have HBz := Lib.hid (HBb.out.trans (hbz.mono HBb.out.size)); clear hbz)
        go_ret
        exact ⟨ret_bool (by simp [hn3.out]), HBz.out⟩
      · have hp := List.length_pos_iff.2 hn
        have hn0 : ((l2.length : Int) == 0) = false := by simp; omega
        have hn1 : (l2.length == 0) = false := by simp; omega
        have hn3 := Lib.hid hn
        clear hn hp
        go_wp2_with (go_at_call 15; refine H1.out.mono ?_; rintro e wz ⟨rfl, hbz⟩; have HBz := Lib.hid (HBb.out.trans (hbz.mono HBb.out.size)); clear hbz)
        go_ret
        exact ⟨ret_bool (by simp [hn3.out]), HBz.out⟩
end
def symBackAts : List Gen.AT := [.agg [.str, .slice 56 [.str, .int .i64, .int .i64, .str, .bool], .slice 40 [.str, .int .i64, .int .i64, .bool, .bool], .slice 48 [.str, .slice 40 [.str, .int .i64, .int .i64, .bool, .bool], .int .i64]], .one (.int .i64), .one (.slice 1 [.int .u8])]
theorem symBack_args (W : World) (vs : List Value) (h : Gen.ArgsGood W symBackAts vs) :
    Calls Try.prog 7 vs.toArray W fun e W' => e = .returned (.bool true) ∧ Below W.heap.size W W' := by
  match vs, h with
  | [v0, v1, v2], h =>
    obtain ⟨h0, h1, h2, _⟩ := h
    obtain ⟨s, cv, vv, pv, rfl, hS⟩ := good_sym h0
    obtain ⟨cut, rfl, _⟩ := Gen.Good.int_inv h1
    by_cases hc : smOk s
    · obtain ⟨l, hF, ho, A, cap, rfl, hb, hl⟩ := good_bytes h2
      have hz : A = none → cap = 0 := fun e => by
        subst e
        have h2' : Gen.Good W (.slice 1 [.int .u8]) (.slice none l.length cap) := h2
        generalize hv : Value.slice none l.length cap = v at h2'
        cases h2' with
        | nil => injection hv
        | slice => injection hv with e1; cases e1
      exact back_yes s hS hc cut hF ho hz (by unfold reachBytes at hb; omega)
    · exact back_no s hS hc cut v2
end Go.Proofs.Ytgemnmceflcpcaa
