/- Bytes are read as symbols, or refused at the first place where they are none: the law's walk. -/
import Derived.Test.YtgemnmceflcpcaaSrM
import Derived.Test.YtgemnmceflcpcaaSsA
import Derived.Test.YtgemnmceflcpcaaSdT
namespace Go.Proofs.Ytgemnmceflcpcaa
open Go Go.RowKit Go.Lib Go.Proofs.Ytgemnmceflcpcaa.Sy
set_option linter.unusedVariables false
set_option linter.unusedSimpArgs false
attribute [local go_sem ↓] exec_load_const exec_store_const exec_load_var exec_store_var exec_load_proc exec_store_proc exec_load_sym exec_store_sym
section
variable {w : World} {l : List Int}
theorem rdecode_is {v : Value} (hF : BytesAt w v l) (ho : Oct l) {s : Sm} {p er : Int} (hA : DecAns l s p er) :
    Calls Try.prog 19 #[v] w fun e w' => ∃ cv vv pv pvs, e = .returned (.tuple #[.agg (scells s cv vv pv), .int .i64 p, .int .i64 er]) ∧ SmOwn w' w.heap.size s cv vv pv pvs ∧ Below w.heap.size w w' :=
  (rdecode_any hF ho).mono fun e w' ⟨s', p', er', cv, vv, pv, pvs, he, hd, hs, hb⟩ => by
    obtain ⟨rfl, rfl, rfl⟩ := hd.same hA
    exact ⟨cv, vv, pv, pvs, he, hs, hb⟩
set_option maxHeartbeats 8000000 in
set_option maxRecDepth 100000 in
theorem reads_any {A : Option Addr} {c2 : Nat} (hF : BytesAt w (.slice A l.length c2) l) (ho : Oct l) (hz : A = none → c2 = 0) (hl : l.length ≤ 140737488351232) :
    Calls Try.prog 5 #[.slice A l.length c2] w fun e w' => e = .returned (.bool true) ∧ Below w.heap.size w w' := by
  obtain ⟨s, p, er, hA⟩ := dec_exists l
  have HA := Lib.hid hA
  have HF := Lib.hid hF
  have HO := Lib.hid ho
  have HZ := Lib.hid hz
  have HL := Lib.hid hl
  have hmk : ∀ W : World, (Instr.makeSlice 30 (.int .i64 0) (.int .i64 ((l.length : Int) + 8))).run Try.prog W = .ok (.slice (some ⟨W.heap.size, 0, none⟩) 0 (l.length + 8)) (W.alloc (.cells (madeCells #[.int .u8 0] (l.length + 8)) 5)) := fun W => mk_roomB (l.length + 8) (by omega) W
  have hi1 : (l.length : Int) ≤ 140737488351232 := by omega
  clear hF ho hz hl hA
  go_enter Try.func5, Try.ntmps5
  go_wp2_with fail
  refine (shown_any (w := w)).mono ?_
  rintro e w1 ⟨rfl, hb⟩
  have HB1 := Lib.hid hb
  clear hb
  have HO2 := Lib.hid (roomB_own w1 (l.length + 8) (by have := HL.out; unfold maxLen; omega))
  have HB2 := Lib.hid ((Below.refl w1.heap.size w1).alloc (Nat.le_refl _) (.cells (madeCells #[.int .u8 0] (l.length + 8)) 5))
  have HF2 := Lib.hid ((HF.out.below HB1.out).below HB2.out)
  go_wp2_with (at_builtin; go_must (refine list_appV rfl _ _ rfl (by rfl) HO2.out (A := A) (m := l.length) (c := c2) (by rfl) HF2.out HZ.out ?c1 ?c2 ?_))
  case c1 => have := HL.out; simp; omega
  case c2 => simp
  intro vm w3 ho3 ht3
  have HM3 := Lib.hid (show OwnB w3 w1.heap.size vm l from ho3)
  have HB3 := Lib.hid (own_touch_below HO2.out HB2.out ht3)
  have HBw3 := Lib.hid (HB1.out.trans (HB3.out.mono HB1.out.size))
  have HF3 := Lib.hid (HF.out.below HBw3.out)
  have HV3 := Lib.hid (own_bytes HM3.out)
  obtain ⟨Am, cm, hvm, _⟩ := bytes_form (own_bytes HM3.out)
  subst hvm
  clear ho3 ht3 HO2 HB2 HF2 HB1 HB3 hmk
  have HR3 := Lib.hid (Below.refl w3.heap.size w3)
  go_wp2_with fail
  refine (decode_is HV3.out HO.out HA.out).mono ?_
  rintro e w4 ⟨ca, va, pa, pas, rfl, hs, hb⟩
  have hst := store_blk_new w4 zSym (scells s ca va pa) 26 sz_sym rfl rfl hs.ones
  have HIN := Lib.hid (ownR_in hs)
  have HR4 := Lib.hid hb
  have KS5 := Lib.hid (Blk.new w4 (scells s ca va pa) 26)
  have HR5 := Lib.hid (HR4.out.alloc HR4.out.size (.cells (scells s ca va pa) 26))
  have HS5 := Lib.hid (hs.below ((Below.refl _ w4).alloc (Nat.le_refl _) (.cells (scells s ca va pa) 26)))
  have hz5 : w4.heap.size < (w4.alloc (.cells (scells s ca va pa) 26)).heap.size := by simp
  clear hs hb HR4
  go_upto_region 4 with fail
  clear hst
  generalize w4.heap.size = gs at KS5 HIN hz5 ⊢
  generalize w4.alloc (.cells (scells s ca va pa) 26) = w5 at KS5 HR5 HS5 hz5 ⊢
  have HF5 := Lib.hid (HF3.out.below HR5.out)
  go_wp2_with fail
  refine (rdecode_is HF5.out HO.out HA.out).mono ?_
  rintro e w6 ⟨ct, vt, pt, pts, rfl, hs, hb⟩
  have hst := store_blk_new w6 zSym (scells s ct vt pt) 26 sz_sym rfl rfl hs.ones
  have hz6 := hb.size
  have bnew := (Below.refl _ w6).alloc (Nat.le_refl _) (.cells (scells s ct vt pt) 26)
  have KT7 := Lib.hid (Blk.new w6 (scells s ct vt pt) 26)
  have KS7 := Lib.hid ((KS5.out.step hb).step bnew)
  have HR7 := Lib.hid ((HR5.out.trans (hb.mono HR5.out.size)).alloc (by have := HR5.out.size; omega) (.cells (scells s ct vt pt) 26))
  have HS7 := Lib.hid ((HS5.out.below hb).below bnew)
  have HT7 := Lib.hid (hs.below bnew)
  clear hs hb KS5 HR5 HS5 HF5 bnew
  go_upto_region 5 with fail
  clear hst
  have hgt : w5.heap.size ≤ w6.heap.size := hz6
  generalize w6.heap.size = gt at KT7 hgt ⊢
  generalize w6.alloc (.cells (scells s ct vt pt) 26) = w7 at KT7 KS7 HR7 HS7 HT7 ⊢
  clear hz6
  have lx := load_blk Try.underlying26 rfl sz_sym KS7.out rfl
  have ly := load_blk Try.underlying26 rfl sz_sym KT7.out rfl
  have H1 := Lib.hid (same_any s HS7.out.at HT7.out.at)
  go_upto_region 6 with (go_at_call 15; refine H1.out.mono ?_; rintro e w8 ⟨rfl, hb⟩; have HB8 := Lib.hid hb; clear hb)
  have KS8 := Lib.hid (KS7.out.step HB8.out)
  have KT8 := Lib.hid (KT7.out.step HB8.out)
  have HR8 := Lib.hid (HR7.out.trans (HB8.out.mono HR7.out.size))
  have HS8 := Lib.hid (HS7.out.below HB8.out)
  have HT8 := Lib.hid (HT7.out.below HB8.out)
  clear lx ly H1 KS7 KT7 HR7 HS7 HT7
  have lx := load_blk Try.underlying26 rfl sz_sym KS8.out rfl
  have H2 := Lib.hid (spoil_any (Spo.of HS8.out) (fun x hx => (ownR_in HS8.out x hx).2) HS8.out.ones)
  go_upto_region 7 with (go_at_call 20; refine H2.out.mono ?_; rintro e w9 ⟨⟨av, rfl⟩, ht⟩; have HT := Lib.hid ht; clear ht)
  have KT9 := Lib.hid (HT.out.blk KT8.out (fun hm => by have := (HIN.out _ hm).2; omega))
  have HR9 := Lib.hid (HR8.out.trans (HT.out.below HR8.out.size (fun x hx => (HIN.out x hx).1)))
  have HT9 := Lib.hid (HT8.out.touch HT.out (fun x hx => by have := (HIN.out x hx).2; omega))
  clear lx H2 KS8 KT8 HR8 HS8 HT8 HT HIN
  have HV9 := Lib.hid (HV3.out.below HR9.out)
  go_wp2_with fail
  refine (decode_is HV9.out HO.out HA.out).mono ?_
  rintro e wa ⟨cu, vu, pu, pus, rfl, hs, hb⟩
  have hst := store_blk_new wa zSym (scells s cu vu pu) 26 sz_sym rfl rfl hs.ones
  have bnew := (Below.refl _ wa).alloc (Nat.le_refl _) (.cells (scells s cu vu pu) 26)
  have KUb := Lib.hid (Blk.new wa (scells s cu vu pu) 26)
  have KTb := Lib.hid ((KT9.out.step hb).step bnew)
  have HRb := Lib.hid ((HR9.out.trans (hb.mono HR9.out.size)).alloc (by have := HR9.out.size; have := hb.size; omega) (.cells (scells s cu vu pu) 26))
  have HTb := Lib.hid ((HT9.out.below hb).below bnew)
  have HUb := Lib.hid (hs.below bnew)
  clear hs hb KT9 HR9 HT9 bnew HV9
  go_upto_region 8 with fail
  clear hst
  generalize wa.heap.size = gu at KUb ⊢
  generalize wa.alloc (.cells (scells s cu vu pu) 26) = wb at KUb KTb HRb HTb HUb ⊢
  have lu := load_blk Try.underlying26 rfl sz_sym KUb.out rfl
  have lt := load_blk Try.underlying26 rfl sz_sym KTb.out rfl
  have hcv1 := conv_at (HV3.out.below HRb.out)
  have hcv2 := conv_at (HF3.out.below HRb.out)
  have H3 := Lib.hid (same_any s HUb.out.at HTb.out.at)
  go_wp2_with (go_at_call 15; refine H3.out.mono ?_; rintro e wz ⟨rfl, hbz⟩; have HBz := Lib.hid (HRb.out.trans (hbz.mono HRb.out.size)); clear hbz)
  go_ret
  exact ⟨rfl, HBw3.out.trans (HBz.out.mono HBw3.out.size)⟩
end
def symReadsAts : List Gen.AT := [.one (.slice 1 [.int .u8])]
theorem symReads_args (W : World) (vs : List Value) (h : Gen.ArgsGood W symReadsAts vs) :
    Calls Try.prog 5 vs.toArray W fun e W' => e = .returned (.bool true) ∧ Below W.heap.size W W' := by
  match vs, h with
  | [v0], h =>
    obtain ⟨l, hF, ho, A, cap, rfl, hb, hl⟩ := good_bytes h.1
    have hz : A = none → cap = 0 := fun e => by
      subst e
      have h2' : Gen.Good W (.slice 1 [.int .u8]) (.slice none l.length cap) := h.1
      generalize hv : Value.slice none l.length cap = v at h2'
      cases h2' with
      | nil => injection hv
      | slice => injection hv with e1; cases e1
    exact reads_any hF ho hz (by unfold reachBytes at hb; omega)
end Go.Proofs.Ytgemnmceflcpcaa
