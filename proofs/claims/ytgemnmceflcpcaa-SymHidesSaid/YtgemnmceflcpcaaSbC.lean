/- The document's Encode. -/
import Derived.Test.YtgemnmceflcpcaaSbB
import Derived.Test.YtgemnmceflcpcaaSrK
import Derived.Deep.CutBlock
namespace Go.Proofs.Ytgemnmceflcpcaa
open Go Go.RowKit Go.Lib Go.Proofs.Ytgemnmceflcpcaa.Sy
set_option linter.unusedVariables false
set_option linter.unusedSimpArgs false
attribute [local go_sem ↓] exec_load_const exec_store_const exec_load_var exec_store_var exec_load_proc exec_store_proc exec_load_sym exec_store_sym
section
variable {w : World}
set_option maxHeartbeats 4000000 in
set_option maxRecDepth 100000 in
theorem rencode_no (s : Sm) {cv vv pv : Value} (hS : SmAt w s cv vv pv) (hc : ¬ smOk s) :
    Calls Try.prog 12 #[.agg (scells s cv vv pv)] w (EncP false s w) := by
  have c1 := hS.c.1.one
  have c2 := hS.v.1.one
  have c3 : pv.oneCell' = true := by obtain ⟨pvs, _, h, _⟩ := hS.p; exact h.one
  have HB0 := Lib.hid ((Below.refl w.heap.size w).alloc (Nat.le_refl _) (.cells (scells s cv vv pv) 26))
  have hl0 := load_blk Try.underlying26 rfl sz_sym (Blk.new w (scells s cv vv pv) 26) rfl
  have H1 := Lib.hid (rright_any (w := w.alloc (.cells (scells s cv vv pv) 26)) s (hS.below HB0.out) (q := false) ⟨(fun h => by cases h), fun h => absurd h hc⟩)
  clear hS hc
  go_enter Try.func12, Try.ntmps12
  go_wp2_with (go_at_call 16; refine H1.out.mono ?_; rintro e w1 ⟨rfl, hb1⟩; have HB1 := Lib.hid (HB0.out.trans (hb1.mono HB0.out.size)); clear hb1)
  go_ret2
  exact ⟨_, rfl, World.ownsRow_nil _ _ _ _, HB1.out⟩
set_option maxHeartbeats 8000000 in
set_option maxRecDepth 100000 in
theorem rencode_yes (s : Sm) {cv vv pv : Value} (hS : SmAt w s cv vv pv) (hc : smOk s) :
    Calls Try.prog 12 #[.agg (scells s cv vv pv)] w (EncP true s w) := by
  have HB0 := Lib.hid ((Below.refl w.heap.size w).alloc (Nat.le_refl _) (.cells (scells s cv vv pv) 26))
  have KX0 := Lib.hid (Blk.new w (scells s cv vv pv) 26)
  have hl0 := load_blk Try.underlying26 rfl sz_sym (Blk.new w (scells s cv vv pv) 26) rfl
  have H1 := Lib.hid (rright_any (w := w.alloc (.cells (scells s cv vv pv) 26)) s (hS.below HB0.out) (q := true) ⟨fun _ => hc, fun _ => rfl⟩)
  have HL := Lib.hid (symB_len hc)
  have HC := Lib.hid hc
  obtain ⟨_, hC1, hV1, hP1⟩ := hS
  have c1 := hC1.1.one
  have c2 := hV1.1.one
  have c3 : pv.oneCell' = true := by obtain ⟨pvs, _, h, _⟩ := hP1; exact h.one
  obtain ⟨A1, cap1, rfl, c11, c12, R1⟩ := list_of hC1.1 (List.length_map _)
  obtain ⟨A2, cap2, rfl, c21, c22, R2⟩ := list_of hV1.1 (List.length_map _)
  obtain ⟨pvs, hpl, hrw, hpe⟩ := hP1
  obtain ⟨A3, cap3, rfl, c31, c32, R3⟩ := list_of (n := s.procs.length) hrw (by rw [List.length_zipWith, hpl, Nat.min_self])
  unfold maxLen at c12 c22 c32
  have R1 := Lib.hid R1
  have R2 := Lib.hid R2
  have R3 := Lib.hid R3
  have HPL := Lib.hid hpl
  have HPE := Lib.hid hpe
  clear hpl hpe hrw hC1 hV1 hc
  have kc := fun (w : World) (C : Array Value) (n c : Nat) => Lib.run_convert_bytes_const (P := Try.prog) w 30 5 C n c Try.underlying30 Try.underlying5
  go_enter Try.func12, Try.ntmps12
  go_wp2_with (go_at_call 16; refine H1.out.mono ?_; rintro e w1 ⟨rfl, hb1⟩; have HB1 := Lib.hid (HB0.out.trans (hb1.mono HB0.out.size)); have KX1 := Lib.hid (KX0.out.step hb1); clear hb1; have z1 := (KX1.out.old (.cells #[.int .u8 67, .int .u8 82, .int .u8 83, .int .u8 49] 5 (4, 5))).cell 0; have HF1 := Lib.hid (show BytesAt (w1.alloc (.cells #[.int .u8 67, .int .u8 82, .int .u8 83, .int .u8 49] 5 (4, 5))) (.slice (some ⟨w1.heap.size, 0, none⟩) 4 4) [67, 82, 83, 49] from bytes_new w1 [67, 82, 83, 49] (by decide) 5 (4, 5)); have HBA := Lib.hid ((Below.refl w1.heap.size w1).alloc (Nat.le_refl _) (.cells #[.int .u8 67, .int .u8 82, .int .u8 83, .int .u8 49] 5 (4, 5))))
  refine (rputtext_any ⟨HF1.out, (fun c e => by cases e)⟩ s.name (by have := HC.out.1.2.1; omega) (by decide)).mono ?_
  rintro e w2 ⟨v2, rfl, ho2, hb2⟩
  have I2 : Hid (EncI w (scells s (.slice A1 s.consts.length cap1) (.slice A2 s.vars.length cap2) (.slice A3 s.procs.length cap3)) (w.heap.size + 1) w2 v2 ([67, 82, 83, 49] ++ txt s.name)) := Lib.hid ⟨(KX1.out.old _).step hb2, by omega, own_weak ho2 (by have := KX1.out.lt; simp; omega), HB1.out.trans ((HBA.out.trans (hb2.mono HBA.out.size)).mono HB1.out.size)⟩
  clear ho2 hb2 HF1 HBA z1 KX1 HB1 KX0 HB0 H1 hl0 kc
  have z2 := I2.out.box.cell 1
  go_wp2_with fail
  refine (rput_any I2.out.inb (s.consts.length : Int) (by omega) (by have := HC.out.2.1; omega) (by have := HL.out; unfold symB at this; simp only [List.length_append] at this ⊢; omega)).mono ?_
  rintro e w3 ⟨v3, rfl, ho3, hb3⟩
  have I3 := Lib.hid ((I2.out.new ho3 hb3).weak (B' := (w.heap.size + 1)) I2.out.box.lt (by omega))
  simp only [Int.toNat_natCast] at I3
  clear ho3 hb3 I2 z2
  obtain ⟨L0, hL0⟩ : ∃ L, L = [67, 82, 83, 49] ++ txt s.name ++ grps s.consts.length := ⟨_, rfl⟩
  have HSY := Lib.hid (show symB s = L0 ++ cstsB s.consts ++ grps s.vars.length ++ varsB s.vars ++ grps s.procs.length ++ prsB s.procs by rw [hL0]; rfl)
  have HLEN := Lib.hid (show L0.length + (cstsB s.consts).length + (grps s.vars.length).length + (varsB s.vars).length + (grps s.procs.length).length + (prsB s.procs).length ≤ 60000 by have := HL.out; rw [HSY.out] at this; simp only [List.length_append] at this; omega)
  rw [← hL0] at I3
  clear hL0 HL
  go_upto_block 0 with fail
  go_cut [5] from 6 to 62 (fun s5 wx => Hid (EncI w (scells s (.slice A1 s.consts.length cap1) (.slice A2 s.vars.length cap2) (.slice A3 s.procs.length cap3)) (w.heap.size + 1) wx s5 (L0 ++ cstsB s.consts)))
  case first =>
    go_wp2_with fail
    go_loopw [5, 6, 7] (fun u i p wr => ∃ k : Nat, k ≤ s.consts.length ∧ i = .int .i64 k ∧ Hid (EncI w (scells s (.slice A1 s.consts.length cap1) (.slice A2 s.vars.length cap2) (.slice A3 s.procs.length cap3)) (w.heap.size + 1) wr u (L0 ++ cstsB (s.consts.take k)))) (fun _ i _ _ => s.consts.length - (intOf i).toNat)
    case atStart => exact ⟨0, Nat.zero_le _, rfl, Lib.hid (by rw [List.take_zero]; unfold cstsB; rw [List.flatMap_nil, List.append_nil]; exact I3.out)⟩
    case round =>
      obtain ⟨k, hk, rfl, HI⟩ := hrel
      clear I3
      have x1 := HI.out.box.cell 1
      by_cases hlt : k < s.consts.length
      · obtain ⟨x, hx⟩ : ∃ x, s.consts[k]? = some x := ⟨s.consts[k], List.getElem?_eq_getElem hlt⟩
        rcases R1.out with hz | ⟨b, off, rfl, hb, hr⟩
        · omega
        have hxm := List.mem_of_getElem? hx
        have HCF := Lib.hid (cst_fit (HC.out.2.2.2.2.2.2.1 x hxm))
        have HNM := Lib.hid (cst_name HC.out hxm)
        have HNX := Lib.hid (show L0 ++ cstsB (s.consts.take (k + 1)) = L0 ++ cstsB (s.consts.take k) ++ cstB x by unfold cstsB; rw [take_snoc hx, flat_snoc, List.append_assoc])
        have HLK := Lib.hid (show (L0 ++ cstsB (s.consts.take k)).length ≤ 60000 by have h1 := flat_take_le cstB s.consts k; have h2 := HLEN.out; unfold cstsB at h2 ⊢; rw [List.length_append]; omega)
        have l1 := load_mid (w := wr) Try.underlying48 rfl sz_const (range_below (hr k (ccells x).toList (by rw [List.getElem?_map, hx]; rfl)) HI.out.bel hb) rfl
        have hst := store_blk_new wr zCst (ccells x) 48 sz_const rfl rfl (ccells_one x)
        have hk1 : (0 : Int) ≤ (k : Int) := by omega
        have hk2 : (k : Int) < (s.consts.length : Int) := by omega
        clear hx hr hxm
        go_upto_region 10 with fail
        clear l1 hst x1
        have KC1 := Lib.hid (Blk.new wr (ccells x) 48)
        have I1 := Lib.hid (HI.out.alloc (.cells (ccells x) 48))
        generalize wr.heap.size = gc at KC1 ⊢
        generalize wr.alloc (.cells (ccells x) 48) = w1 at KC1 I1 ⊢
        clear HI
        generalize L0 ++ cstsB (s.consts.take k) = L at I1 HLK HNX
        obtain ⟨nm, ty, n, st, sh⟩ := x
        simp only at HCF HNM
        have hty : IntKind.u8.wrap ty = ty := IntWalk.u8_in _ ⟨by have := HCF.out.1; omega, by have := HCF.out.1; omega⟩
        have y0 : w1.cell? ⟨gc, 0, none⟩ = some (.string nm) := KC1.out.cell 0
        go_wp2_with fail
        refine (rputtext_any I1.out.inb nm (by have := HNM.out; omega) (by have := HLK.out; omega)).mono ?_
        rintro e w2 ⟨v2, rfl, ho, hbw⟩
        have hz2 := hbw.size
        have I2 := Lib.hid (I1.out.new ho hbw)
        have KC2 := Lib.hid (KC1.out.step hbw)
        have hg2 := KC1.out.lt
        have HT2 := Lib.hid (txt_len (s := nm) (by have := HNM.out; omega))
        clear ho hbw y0 KC1 I1
        generalize w1.heap.size = B at I2 hz2 hg2
        have y1 : w2.cell? ⟨gc, 1, none⟩ = some (.int .i64 ty) := KC2.out.cell 1
        go_wp2_with (at_builtin; go_must (refine list_appB rfl _ _ rfl [ty] (by rfl) (own_one w2 I2.out.own _) (ad := ⟨w2.heap.size, 0, none⟩) (m := 1) (c := 1) (by rfl) rfl (one_news w2 (ty)) ?c3a ?c4a ?_))
        case c3a => have := HLK.out; have := HT2.out; have := HNM.out; simp only [List.length_append]; omega
        case c4a => simp; omega
        intro v3 w3 ho3 ht3 _
        have I3 := Lib.hid ((I2.out.alloc _).app ho3 ht3)
        have KC3 := Lib.hid ((I2.out.alloc _).side ht3 (KC2.out.old _) hg2)
        have hz3 := ht3.size
        clear ho3 ht3 KC2 I2 y1
        simp only [World.size_alloc] at hz3
        have y1 : w3.cell? ⟨gc, 1, none⟩ = some (.int .i64 ty) := KC3.out.cell 1
        by_cases h7 : ty = 7
        · subst h7
          have y3 : w3.cell? ⟨gc, 3, none⟩ = some (.string st) := KC3.out.cell 3
          go_wp2_with fail
          refine (rputtext_any I3.out.inb st (by have := HCF.out.2.1; omega) (by have := HLK.out; have := HT2.out; have := HNM.out; simp only [List.length_append, List.length_cons, List.length_nil]; omega)).mono ?_
          rintro e w4 ⟨v4, rfl, ho, hbw⟩
          have I4 := Lib.hid ((I3.out.new ho hbw).weak (B' := (w.heap.size + 1)) (I3.out.box.lt) (by omega))
          clear ho hbw
          go_wp2_with fail
          go_roundw
          case rel => exact ⟨k + 1, by omega, by go_num, Lib.hid (by rw [HNX.out]; have := I4.out; unfold cstB; rw [if_pos rfl]; simp only [List.append_assoc] at this ⊢; exact this)⟩
          case measure => simp [intOf]; omega
        · have h70 : (ty == 7) = false := by simpa using h7
          have h71 := Lib.hid h7
          have y2 : w3.cell? ⟨gc, 2, none⟩ = some (.int .i64 n) := KC3.out.cell 2
          have hn0 : 0 ≤ n % 4294967296 := by omega
          have hn1 : n % 4294967296 < 4294967296 := by omega
          clear h7
          go_wp2_with fail
          refine (rword_any (w := w3) (n % 4294967296) hn0 hn1).mono ?_
          rintro e w4 ⟨v4, rfl, ho, hbw⟩
          rw [wrdB_mod] at ho
          obtain ⟨A4, c4, rfl, hA4⟩ := own_slice ho
          have HO4 := Lib.hid (own_bytes ho)
          have HA4 := Lib.hid hA4
          have I4 := Lib.hid (I3.out.step hbw)
          have hz4 := hbw.size
          clear ho hbw hA4
          go_wp2_with (at_builtin; go_must (refine list_appV rfl _ _ rfl (v := v3) (by rfl) I4.out.own (A := A4) (m := 4) (c := c4) (by rfl) HO4.out HA4.out ?c5a ?c6a ?_))
          case c5a => have := HLK.out; have := HT2.out; have := HNM.out; simp only [List.length_append, List.length_cons, List.length_nil]; unfold wrdB; simp only [List.length_cons, List.length_nil]; omega
          case c6a => omega
          intro v5 w5 ho5 ht5
          have I5 := Lib.hid ((I4.out.app ho5 ht5).weak (B' := (w.heap.size + 1)) (by have := I4.out.low; omega) (by omega))
          clear ho5 ht5
          go_wp2_with fail
          go_roundw
          case rel => exact ⟨k + 1, by omega, by go_num, Lib.hid (by rw [HNX.out]; have := I5.out; unfold cstB; rw [if_neg h71.out]; simp only [List.append_assoc] at this ⊢; exact this)⟩
          case measure => simp [intOf]; omega
      · obtain rfl : k = s.consts.length := by omega
        go_wp2_with fail
        go_meet
        rw [List.take_length] at HI
        exact HI
  case rest =>
  have I4 := hcut
  clear I3
  have x2 := I4.out.box.cell 2
  go_wp2_with fail
  refine (rput_any I4.out.inb (s.vars.length : Int) (by omega) (by have := HC.out.2.2.1; omega) (by have h2 := HLEN.out; rw [List.length_append]; omega)).mono ?_
  rintro e w5 ⟨v5, rfl, ho, hbw⟩
  have I5 := Lib.hid ((I4.out.new ho hbw).weak (B' := (w.heap.size + 1)) I4.out.box.lt (by omega))
  simp only [Int.toNat_natCast] at I5
  clear ho hbw I4 x2
  obtain ⟨L1, hL1⟩ : ∃ L, L = L0 ++ cstsB s.consts ++ grps s.vars.length := ⟨_, rfl⟩
  rw [← hL1] at I5
  have HL1 := Lib.hid (show L1.length + (varsB s.vars).length ≤ 60000 by have h2 := HLEN.out; rw [hL1]; simp only [List.length_append]; omega)
  have HLE1 := Lib.hid hL1
  clear hL1
  go_upto_block 2 with fail
  go_cut [5] from 8 to 100 (fun s5 wx => Hid (EncI w (scells s (.slice A1 s.consts.length cap1) (.slice A2 s.vars.length cap2) (.slice A3 s.procs.length cap3)) (w.heap.size + 1) wx s5 (L1 ++ varsB s.vars)))
  case first =>
    go_wp2_with fail
    go_loopw [5, 8] (fun u i wr => ∃ k : Nat, k ≤ s.vars.length ∧ i = .int .i64 k ∧ Hid (EncI w (scells s (.slice A1 s.consts.length cap1) (.slice A2 s.vars.length cap2) (.slice A3 s.procs.length cap3)) (w.heap.size + 1) wr u (L1 ++ varsB (s.vars.take k)))) (fun _ i _ => s.vars.length - (intOf i).toNat)
    case atStart => exact ⟨0, Nat.zero_le _, rfl, Lib.hid (by rw [List.take_zero]; unfold varsB; rw [List.flatMap_nil, List.append_nil]; exact I5.out)⟩
    case round =>
      obtain ⟨k, hk, rfl, HI⟩ := hrel
      clear I5
      have x2 := HI.out.box.cell 2
      by_cases hlt : k < s.vars.length
      · obtain ⟨x, hx⟩ : ∃ x, s.vars[k]? = some x := ⟨s.vars[k], List.getElem?_eq_getElem hlt⟩
        rcases R2.out with hz | ⟨b, off, rfl, hb, hr⟩
        · omega
        have hxm := List.mem_of_getElem? hx
        have HVF := Lib.hid (HC.out.2.2.2.2.2.2.2.1 x hxm)
        have HVL := Lib.hid (vr_fit HVF.out)
        have HNM := Lib.hid (vr_name HC.out hxm)
        have HNX := Lib.hid (show L1 ++ varsB (s.vars.take (k + 1)) = L1 ++ varsB (s.vars.take k) ++ varB x by unfold varsB; rw [take_snoc hx, flat_snoc, List.append_assoc])
        have HLK := Lib.hid (show (L1 ++ varsB (s.vars.take k)).length ≤ 60000 by have h1 := flat_take_le varB s.vars k; have h2 := HL1.out; unfold varsB at h2 ⊢; rw [List.length_append]; omega)
        have HRW := Lib.hid (fun (W : World) (hW : Below w.heap.size w W) => range_below (hr k (vcells x).toList (by rw [List.getElem?_map, hx]; rfl)) hW hb)
        have hk1 : (0 : Int) ≤ (k : Int) := by omega
        have hk2 : (k : Int) < (s.vars.length : Int) := by omega
        clear hx hr hxm
        generalize L1 ++ varsB (s.vars.take k) = L at HI HLK HNX
        obtain ⟨nm, fm, ln, op, rf⟩ := x
        simp only at HVF HVL HNM
        have hty : IntKind.u8.wrap fm = fm := IntWalk.u8_in _ ⟨by have := HVF.out.1.1; simp only at this; omega, by have := HVF.out.1.2; simp only at this; omega⟩
        have y0 : wr.cell? ⟨b, off + k * 5, none⟩ = some (.string nm) := HRW.out wr HI.out.bel 0 _ rfl
        go_wp2_with fail
        refine (rputtext_any HI.out.inb nm (by have := HNM.out; omega) (by have := HLK.out; omega)).mono ?_
        rintro e w2 ⟨v2, rfl, ho, hbw⟩
        have hz2 := hbw.size
        have I2 := Lib.hid (HI.out.new ho hbw)
        have HT2 := Lib.hid (txt_len (s := nm) (by have := HNM.out; omega))
        clear ho hbw y0 HI x2
        generalize wr.heap.size = B at I2 hz2
        have x2 := I2.out.box.cell 2
        have y1 : w2.cell? ⟨b, off + k * 5 + 1, none⟩ = some (.int .i64 fm) := HRW.out w2 I2.out.bel 1 _ rfl
        go_wp2_with (at_builtin; go_must (refine list_appB rfl _ _ rfl [fm] (by rfl) (own_one w2 I2.out.own _) (ad := ⟨w2.heap.size, 0, none⟩) (m := 1) (c := 1) (by rfl) rfl (one_news w2 (fm)) ?c3b ?c4b ?_))
        case c3b => have := HLK.out; have := HT2.out; have := HNM.out; simp only [List.length_append]; omega
        case c4b => simp; omega
        intro v3 w3 ho3 ht3 _
        have I3 := Lib.hid ((I2.out.alloc _).app ho3 ht3)
        clear ho3 ht3 I2 y1 x2
        have x2 := I3.out.box.cell 2
        have y2 : w3.cell? ⟨b, off + k * 5 + 2, none⟩ = some (.int .i64 ln) := HRW.out w3 I3.out.bel 2 _ rfl
        go_wp2_with fail
        refine (rput_any I3.out.inb ln (HVF.out.2.1) (by have := HVL.out; omega) (by have := HLK.out; have := HT2.out; have := HNM.out; simp only [List.length_append, List.length_cons, List.length_nil]; omega)).mono ?_
        rintro e w4 ⟨v4, rfl, ho, hbw⟩
        have I4 := Lib.hid ((I3.out.new ho hbw).weak (B' := (w.heap.size + 1)) (I3.out.box.lt) (by omega))
        clear ho hbw
        go_wp2_with fail
        go_roundw
        case rel => exact ⟨k + 1, by omega, by go_num, Lib.hid (by rw [HNX.out]; have := I4.out; unfold varB; unfold txt at this; simp only [List.append_assoc] at this ⊢; exact this)⟩
        case measure => simp [intOf]; omega
      · obtain rfl : k = s.vars.length := by omega
        go_wp2_with fail
        go_meet
        rw [List.take_length] at HI
        exact HI
  case rest =>
  have I6 := hcut
  rw [HLE1.out] at I6
  clear I5 HL1 HLE1
  have x3 := I6.out.box.cell 3
  go_wp2_with fail
  refine (rput_any I6.out.inb (s.procs.length : Int) (by omega) (by have := HC.out.2.2.2.1; omega) (by have h2 := HLEN.out; simp only [List.length_append]; omega)).mono ?_
  rintro e w7 ⟨v7, rfl, ho, hbw⟩
  have I7 := Lib.hid ((I6.out.new ho hbw).weak (B' := (w.heap.size + 1)) I6.out.box.lt (by omega))
  simp only [Int.toNat_natCast] at I7
  clear ho hbw I6 x3
  obtain ⟨L1, hL1⟩ : ∃ L, L = L0 ++ cstsB s.consts ++ grps s.vars.length ++ varsB s.vars ++ grps s.procs.length := ⟨_, rfl⟩
  rw [← hL1] at I7
  have HL1 := Lib.hid (show L1.length + (prsB s.procs).length ≤ 60000 by have h2 := HLEN.out; rw [hL1]; simp only [List.length_append]; omega)
  have HLE1 := Lib.hid hL1
  clear hL1
  go_upto_block 4 with fail
  go_cut [5] from 9 to 166 (fun s5 wx => Hid (EncI w (scells s (.slice A1 s.consts.length cap1) (.slice A2 s.vars.length cap2) (.slice A3 s.procs.length cap3)) (w.heap.size + 1) wx s5 (L1 ++ prsB s.procs)))
  case first =>
    go_wp2_with fail
    go_loopw [5, 9, 10, 11, 12] (fun u i p q x wr => ∃ k : Nat, k ≤ s.procs.length ∧ i = .int .i64 k ∧ Hid (EncI w (scells s (.slice A1 s.consts.length cap1) (.slice A2 s.vars.length cap2) (.slice A3 s.procs.length cap3)) (w.heap.size + 1) wr u (L1 ++ prsB (s.procs.take k)))) (fun _ i _ _ _ _ => s.procs.length - (intOf i).toNat)
    case atStart => exact ⟨0, Nat.zero_le _, rfl, Lib.hid (by rw [List.take_zero]; unfold prsB; rw [List.flatMap_nil, List.append_nil]; exact I7.out)⟩
    case round =>
      obtain ⟨k, hk, rfl, HI⟩ := hrel
      clear I7
      have x3 := HI.out.box.cell 3
      by_cases hlt : k < s.procs.length
      · obtain ⟨x, hx⟩ : ∃ x, s.procs[k]? = some x := ⟨s.procs[k], List.getElem?_eq_getElem hlt⟩
        obtain ⟨pv, hpv⟩ : ∃ pv, pvs[k]? = some pv := ⟨pvs[k]'(by have := HPL.out; omega), List.getElem?_eq_getElem _⟩
        have hpe := (HPE.out k x pv hx hpv).2.2
        have hz1 : pv.oneCell' = true := hpe.1.one
        have HPV := Lib.hid hpe
        rcases R3.out with hz | ⟨b, off, rfl, hb, hr⟩
        · omega
        have hxm := List.mem_of_getElem? hx
        have HVF := Lib.hid (HC.out.2.2.2.2.2.2.2.2 x hxm)
        have HNM := Lib.hid (pr_name HC.out hxm)
        have HNX := Lib.hid (show L1 ++ prsB (s.procs.take (k + 1)) = L1 ++ prsB (s.procs.take k) ++ prB x by unfold prsB; rw [take_snoc hx, flat_snoc, List.append_assoc])
        have HLK := Lib.hid (show (L1 ++ prsB (s.procs.take k)).length ≤ 60000 by have h1 := flat_take_le prB s.procs k; have h2 := HL1.out; unfold prsB at h2 ⊢; rw [List.length_append]; omega)
        have l1 := load_mid (w := wr) Try.underlying63 rfl sz_proc (range_below (hr k (pcells x pv).toList (by rw [List.getElem?_zipWith, hx, hpv])) HI.out.bel hb) rfl
        have hst := store_blk_new wr zPrc (pcells x pv) 63 sz_proc rfl rfl (pcells_one x hz1)
        have hk1 : (0 : Int) ≤ (k : Int) := by omega
        have hk2 : (k : Int) < (s.procs.length : Int) := by omega
        clear hx hpv hr hxm hpe
        go_upto_region 27 with fail
        clear l1 hst x3
        have KC1 := Lib.hid (Blk.new wr (pcells x pv) 63)
        have I1 := Lib.hid (HI.out.alloc (.cells (pcells x pv) 63))
        have hgz := HI.out.box.lt
        generalize wr.heap.size = gc at KC1 hgz ⊢
        generalize wr.alloc (.cells (pcells x pv) 63) = w1 at KC1 I1 ⊢
        clear HI
        generalize L1 ++ prsB (s.procs.take k) = L at I1 HLK HNX
        obtain ⟨nm, ps, rs⟩ := x
        simp only at HVF HNM HPV
        obtain ⟨A5, cap5, hpve, c51, c52, R5⟩ := list_of HPV.out.1 (List.length_map _)
        subst hpve
        have R5 := Lib.hid R5
        have hty : IntKind.u8.wrap rs = rs := IntWalk.u8_in _ (by have := HVF.out.2.2; unfold plainF at this; simp only at this; exact ⟨by omega, by omega⟩)
        have HPN := Lib.hid HVF.out.2.1
        have y0 : w1.cell? ⟨gc, 0, none⟩ = some (.string nm) := KC1.out.cell 0
        go_wp2_with fail
        refine (rputtext_any I1.out.inb nm (by have := HNM.out; omega) (by have := HLK.out; omega)).mono ?_
        rintro e w2 ⟨v2, rfl, ho, hbw⟩
        have hz2 := hbw.size
        have I2 := Lib.hid (I1.out.new ho hbw)
        have KC2 := Lib.hid (KC1.out.step hbw)
        have hg2 := KC1.out.lt
        have HT2 := Lib.hid (txt_len (s := nm) (by have := HNM.out; omega))
        clear ho hbw y0 KC1 I1
        generalize w1.heap.size = B at I2 hz2 hg2
        have y1 : w2.cell? ⟨gc, 1, none⟩ = some (.slice A5 ps.length cap5) := KC2.out.cell 1
        unfold maxLen at c52
        go_wp2_with fail
        refine (rput_any I2.out.inb (ps.length : Int) (by omega) (by have := HPN.out; omega) (by have := HLK.out; have := HT2.out; have := HNM.out; simp only [List.length_append]; omega)).mono ?_
        rintro e w3 ⟨v3, rfl, ho, hbw⟩
        have I3 := Lib.hid ((I2.out.new ho hbw).weak (B' := gc + 1) KC2.out.lt (by omega))
        simp only [Int.toNat_natCast] at I3
        have KC3 := Lib.hid (KC2.out.step hbw)
        have HG5 := Lib.hid (grps_len5 (n := ps.length) (by have := HPN.out; omega))
        clear ho hbw y1 KC2 I2
        go_wp2_with fail
        go_loopw [5, 11, 12] (fun u i x wr => ∃ j : Nat, j ≤ ps.length ∧ i = .int .i64 j ∧ Hid (EncI w (scells s (.slice A1 s.consts.length cap1) (.slice A2 s.vars.length cap2) (.slice (some ⟨b, off, none⟩) s.procs.length cap3)) (gc + 1) wr u (L ++ txt nm ++ grps ps.length ++ parsB (ps.take j))) ∧ Hid (Blk wr gc (pcells ⟨nm, ps, rs⟩ (.slice A5 ps.length cap5)) 63)) (fun _ i _ _ => ps.length - (intOf i).toNat)
        case atStart => exact ⟨0, Nat.zero_le _, rfl, Lib.hid (by rw [List.take_zero]; unfold parsB; rw [List.flatMap_nil, List.append_nil]; exact I3.out), KC3⟩
        case round =>
          obtain ⟨j, hj, rfl, HJ, KP⟩ := hrel
          clear I3 KC3
          have x1 : wr.cell? ⟨gc, 1, none⟩ = some (.slice A5 ps.length cap5) := KP.out.cell 1
          have HLJ := Lib.hid (show (L ++ txt nm ++ grps ps.length ++ parsB (ps.take j)).length ≤ 70000 by
            have := HLK.out; have := HT2.out; have := HNM.out; have := HG5.out; have := HPN.out
            have h9 := parsB_len (ps.take j)
            rw [List.length_take] at h9
            simp only [List.length_append] at *; omega)
          by_cases hlt : j < ps.length
          · obtain ⟨y, hy⟩ : ∃ y, ps[j]? = some y := ⟨ps[j], List.getElem?_eq_getElem hlt⟩
            rcases R5.out with hz | ⟨b5, off5, rfl, hb5, hr5⟩
            · omega
            have HPF := Lib.hid (HVF.out.1 y (List.mem_of_getElem? hy))
            have HNJ := Lib.hid (show L ++ txt nm ++ grps ps.length ++ parsB (ps.take (j + 1)) = L ++ txt nm ++ grps ps.length ++ parsB (ps.take j) ++ parB y by rw [take_snoc hy, parsB_snoc]; simp only [List.append_assoc])
            have HRP := Lib.hid (fun (W : World) (hW : Below w.heap.size w W) => range_below (hr5 j (vcells y).toList (by rw [List.getElem?_map, hy]; rfl)) hW hb5)
            have hj1 : (0 : Int) ≤ (j : Int) := by omega
            have hj2 : (j : Int) < (ps.length : Int) := by omega
            clear hy hr5
            obtain ⟨pn, fm, pl, op, rf⟩ := y
            have hfm : IntKind.u8.wrap fm = fm := IntWalk.u8_in _ ⟨by have := HPF.out.1.1; simp only at this; omega, by have := HPF.out.1.2; simp only at this; omega⟩
            cases op with
            | false =>
              cases rf with
              | false =>
                have y1 : wr.cell? ⟨b5, off5 + j * 5 + 1, none⟩ = some (.int .i64 fm) := HRP.out wr HJ.out.bel 1 _ rfl
                have y3 : wr.cell? ⟨b5, off5 + j * 5 + 3, none⟩ = some (.bool false) := HRP.out wr HJ.out.bel 3 _ rfl
                have y4 : wr.cell? ⟨b5, off5 + j * 5 + 4, none⟩ = some (.bool false) := HRP.out wr HJ.out.bel 4 _ rfl
                go_wp2_with (at_builtin; go_must (refine list_appB rfl _ _ rfl [fm, 0] (by rfl) (own_one wr HJ.out.own _) (ad := ⟨wr.heap.size, 0, none⟩) (m := 2) (c := 2) (by rfl) rfl (World.news_of_block (Blk.new wr #[.int .u8 fm, .int .u8 0] 5)) ?c3p0 ?c4p0 ?_))
                case c3p0 => have := HLJ.out; simp only [List.length_append] at *; omega
                case c4p0 => have := HJ.out.bel.size; have := KP.out.lt; simp; omega
                intro v9 w9 ho9 ht9 _
                have I9 := Lib.hid ((HJ.out.alloc _).app ho9 ht9)
                have KP9 := Lib.hid ((HJ.out.alloc _).side ht9 (KP.out.old _) (by omega))
                clear ho9 ht9
                go_wp2_with fail
                go_roundw
                case rel => exact ⟨j + 1, by omega, by go_num, Lib.hid (by rw [HNJ.out]; have := I9.out; simp only [List.append_assoc] at this ⊢; exact this), KP9⟩
                case measure => simp [intOf]; omega
              | true =>
                have y1 : wr.cell? ⟨b5, off5 + j * 5 + 1, none⟩ = some (.int .i64 fm) := HRP.out wr HJ.out.bel 1 _ rfl
                have y3 : wr.cell? ⟨b5, off5 + j * 5 + 3, none⟩ = some (.bool false) := HRP.out wr HJ.out.bel 3 _ rfl
                have y4 : wr.cell? ⟨b5, off5 + j * 5 + 4, none⟩ = some (.bool true) := HRP.out wr HJ.out.bel 4 _ rfl
                go_wp2_with (at_builtin; go_must (refine list_appB rfl _ _ rfl [fm, 2] (by rfl) (own_one wr HJ.out.own _) (ad := ⟨wr.heap.size, 0, none⟩) (m := 2) (c := 2) (by rfl) rfl (World.news_of_block (Blk.new wr #[.int .u8 fm, .int .u8 2] 5)) ?c3p2 ?c4p2 ?_))
                case c3p2 => have := HLJ.out; simp only [List.length_append] at *; omega
                case c4p2 => have := HJ.out.bel.size; have := KP.out.lt; simp; omega
                intro v9 w9 ho9 ht9 _
                have I9 := Lib.hid ((HJ.out.alloc _).app ho9 ht9)
                have KP9 := Lib.hid ((HJ.out.alloc _).side ht9 (KP.out.old _) (by omega))
                clear ho9 ht9
                go_wp2_with fail
                go_roundw
                case rel => exact ⟨j + 1, by omega, by go_num, Lib.hid (by rw [HNJ.out]; have := I9.out; simp only [List.append_assoc] at this ⊢; exact this), KP9⟩
                case measure => simp [intOf]; omega
            | true =>
              cases rf with
              | false =>
                have y1 : wr.cell? ⟨b5, off5 + j * 5 + 1, none⟩ = some (.int .i64 fm) := HRP.out wr HJ.out.bel 1 _ rfl
                have y3 : wr.cell? ⟨b5, off5 + j * 5 + 3, none⟩ = some (.bool true) := HRP.out wr HJ.out.bel 3 _ rfl
                have y4 : wr.cell? ⟨b5, off5 + j * 5 + 4, none⟩ = some (.bool false) := HRP.out wr HJ.out.bel 4 _ rfl
                go_wp2_with (at_builtin; go_must (refine list_appB rfl _ _ rfl [fm, 1] (by rfl) (own_one wr HJ.out.own _) (ad := ⟨wr.heap.size, 0, none⟩) (m := 2) (c := 2) (by rfl) rfl (World.news_of_block (Blk.new wr #[.int .u8 fm, .int .u8 1] 5)) ?c3p1 ?c4p1 ?_))
                case c3p1 => have := HLJ.out; simp only [List.length_append] at *; omega
                case c4p1 => have := HJ.out.bel.size; have := KP.out.lt; simp; omega
                intro v9 w9 ho9 ht9 _
                have I9 := Lib.hid ((HJ.out.alloc _).app ho9 ht9)
                have KP9 := Lib.hid ((HJ.out.alloc _).side ht9 (KP.out.old _) (by omega))
                clear ho9 ht9
                go_wp2_with fail
                go_roundw
                case rel => exact ⟨j + 1, by omega, by go_num, Lib.hid (by rw [HNJ.out]; have := I9.out; simp only [List.append_assoc] at this ⊢; exact this), KP9⟩
                case measure => simp [intOf]; omega
              | true =>
                have y1 : wr.cell? ⟨b5, off5 + j * 5 + 1, none⟩ = some (.int .i64 fm) := HRP.out wr HJ.out.bel 1 _ rfl
                have y3 : wr.cell? ⟨b5, off5 + j * 5 + 3, none⟩ = some (.bool true) := HRP.out wr HJ.out.bel 3 _ rfl
                have y4 : wr.cell? ⟨b5, off5 + j * 5 + 4, none⟩ = some (.bool true) := HRP.out wr HJ.out.bel 4 _ rfl
                go_wp2_with (at_builtin; go_must (refine list_appB rfl _ _ rfl [fm, 3] (by rfl) (own_one wr HJ.out.own _) (ad := ⟨wr.heap.size, 0, none⟩) (m := 2) (c := 2) (by rfl) rfl (World.news_of_block (Blk.new wr #[.int .u8 fm, .int .u8 3] 5)) ?c3p3 ?c4p3 ?_))
                case c3p3 => have := HLJ.out; simp only [List.length_append] at *; omega
                case c4p3 => have := HJ.out.bel.size; have := KP.out.lt; simp; omega
                intro v9 w9 ho9 ht9 _
                have I9 := Lib.hid ((HJ.out.alloc _).app ho9 ht9)
                have KP9 := Lib.hid ((HJ.out.alloc _).side ht9 (KP.out.old _) (by omega))
                clear ho9 ht9
                go_wp2_with fail
                go_roundw
                case rel => exact ⟨j + 1, by omega, by go_num, Lib.hid (by rw [HNJ.out]; have := I9.out; simp only [List.append_assoc] at this ⊢; exact this), KP9⟩
                case measure => simp [intOf]; omega
          · obtain rfl : j = ps.length := by omega
            rw [List.take_length] at HJ HLJ
            have y2 : wr.cell? ⟨gc, 2, none⟩ = some (.int .i64 rs) := KP.out.cell 2
            go_wp2_with (at_builtin; go_must (refine list_appB rfl _ _ rfl [rs] (by rfl) (own_one wr HJ.out.own _) (ad := ⟨wr.heap.size, 0, none⟩) (m := 1) (c := 1) (by rfl) rfl (one_news wr (rs)) ?c3r ?c4r ?_))
            case c3r => have := HLJ.out; simp only [List.length_append] at *; omega
            case c4r => have := KP.out.lt; simp; omega
            intro v9 w9 ho9 ht9 _
            have I9 := Lib.hid (((HJ.out.alloc _).app ho9 ht9).weak (B' := (w.heap.size + 1)) (by have := HJ.out.low; omega) (by omega))
            clear ho9 ht9
            go_wp2_with fail
            go_roundw
            case rel => exact ⟨k + 1, by omega, by go_num, Lib.hid (by rw [HNX.out]; have := I9.out; unfold prB; simp only [List.append_assoc] at this ⊢; exact this)⟩
            case measure => simp [intOf]; omega
      · obtain rfl : k = s.procs.length := by omega
        go_wp2_with fail
        go_meet
        rw [List.take_length] at HI
        exact HI
  case rest =>
  have I8 := hcut
  rw [HLE1.out] at I8
  clear I7 HL1 HLE1
  go_wp2_with fail
  go_ret2
  exact ⟨_, rfl, by have h := own_weak (B' := w.heap.size) I8.out.own (by omega); rw [← HSY.out] at h; exact h, I8.out.bel⟩
end
end Go.Proofs.Ytgemnmceflcpcaa
