/- The law TypesLaid. -/
import Derived.Test.YtmbnpfjimidggaaTyS
import Derived.Test.YtmbnpfjimidggaaTyQ
import Derived.Deep.CutRange
import Derived.Deep.DeepCutAuto
import Derived.IntWalk
namespace Go.Proofs.Ytmbnpfjimidggaa
open Go Go.RowKit Go.Lib Go.Proofs.Ytmbnpfjimidggaa.Ty
set_option linter.unusedVariables false
set_option linter.unusedSimpArgs false
attribute [local go_sem ↓] exec_load_type exec_store_type exec_load_field exec_store_field
attribute [local go_sem] tcells fcells
/-- A record was added: the row M, its numbers. -/
structure LaidM (L : List Typ) (base : Int) (ns : List ByteArray) (os : List Int) (T : Typ) (M : List Typ) : Prop where
  g : LaidG L base (mkF ns os) T
  m : M = L ++ [T]
  len : M.length = L.length + 1
  same : ns.length = os.length
  few : ns.length ≤ 200
theorem LaidM.right {L : List Typ} {base : Int} {ns : List ByteArray} {os : List Int} {T : Typ} {M : List Typ} (h : LaidM L base ns os T M) : isRowP M := by rw [h.m]; exact h.g.right
theorem LaidM.last {L : List Typ} {base : Int} {ns : List ByteArray} {os : List Int} {T : Typ} {M : List Typ} (h : LaidM L base ns os T M) : Ty.at_ M (L.length : Nat) = T := by rw [h.m]; exact at_last
theorem LaidM.old {L : List Typ} {base : Int} {ns : List ByteArray} {os : List Int} {T : Typ} {M : List Typ} (h : LaidM L base ns os T M) {t : Int} (ht : t < L.length) : Ty.at_ M t = Ty.at_ L t := by rw [h.m]; exact at_app ht
def AddPost2 (L : List Typ) (base : Int) (ns : List ByteArray) (os : List Int) (w : World) (e : Ending) (w' : World) : Prop :=
  (∃ T M b off cap', LaidM L base ns os T M ∧ e = .returned (.tuple #[.slice (some ⟨b, off, none⟩) M.length cap', .int .i64 L.length, .int .i64 0]) ∧ TysAt w' (some ⟨b, off, none⟩) cap' M ∧ b < w'.heap.size ∧ Below w.heap.size w w') ∨ AddNo w e w'
theorem addPost2 {L : List Typ} {base : Int} {ns : List ByteArray} {os : List Int} {w : World} {e : Ending} {w' : World} (h : AddPost L (recO L base ns os) w e w') : AddPost2 L base ns os w e w' := by
  rcases h with ⟨hR, hl, T, hT, hs, A', cap', rfl, htt, hb⟩ | h
  · left
    have hlen : (L ++ [T]).length = L.length + 1 := by simp
    obtain ⟨b, off, _, rfl, hlt, _⟩ := htt.get (k := 0) (by omega)
    refine ⟨T, L ++ [T], b, off, cap', ?_, by rw [hlen], htt, hlt, hb⟩
    unfold recO at hT
    split at hT
    · cases hT
    · rename_i hc
      exact ⟨⟨hR, hl, hT, hs⟩, rfl, hlen, by omega, by omega⟩
  · exact .inr h
section
variable {w : World} {A : Option Addr} {cap : Nat} {L : List Typ}
set_option maxHeartbeats 16000000 in
set_option maxRecDepth 100000 in
theorem laid_any (H : TysAt w A cap L) (base : Int) (hbw : (Lit.int .i64 base).wf = true) {An Ao : Option Addr} {cn co : Nat} {ns : List ByteArray} {os : List Int} (HN : StrsAt w An cn ns) (HO : IntsAt w Ao co os) :
    Calls Try.prog 4 #[.slice A L.length cap, .int .i64 base, .slice An ns.length cn, .slice Ao os.length co] w fun e w' => e = .returned (.bool true) ∧ Below w.heap.size w w' := by
  have hbb := wf_bd hbw
  have mn := HN.max
  have mo := HO.max
  have ml := H.max
  have ln := HN.cap
  have lo := HO.cap
  have ll := H.cap
  unfold maxLen at mn mo ml
  have HH := Lib.hid H
  have HNN := Lib.hid HN
  have HOO := Lib.hid HO
  have HBW := Lib.hid hbw
  clear H HN HO hbw
  go_enter Try.func4, Try.ntmps4
  go_upto_region 2 with (go_at_call 5; refine (tshown_any _).mono ?_; rintro e w1 ⟨rfl, hb1⟩; have HB1 := Lib.hid hb1; clear hb1)
  go_upto_region 3 with (go_at_call 7; refine ((addrecord_any (HH.out.below HB1.out) base HBW.out (HNN.out.below HB1.out) (HOO.out.below HB1.out)).mono (fun _ _ h => addPost2 h)).mono ?_; rintro e w2 (⟨T, M, b, off, cm, hLG, rfl, htt, hblt, hb2⟩ | ⟨c, rfl, hc0, hb2⟩))
  rotate_left
  · have hc1 : (c != 0) = true := by simpa using hc0
    have HB2 := Lib.hid (HB1.out.trans (hb2.mono HB1.out.size))
    clear hb2 hc0
    go_wp2_with fail
    go_ret
    exact ⟨rfl, HB2.out⟩
  have HB2 := Lib.hid (HB1.out.trans (hb2.mono HB1.out.size))
  have HLG := Lib.hid hLG
  have HTT := Lib.hid htt
  obtain ⟨b0, b1, b2⟩ := hLG.g.base_in
  obtain ⟨s1, s2, s3, s4⟩ := hLG.g.shape
  have hlen := hLG.len
  have hsame := hLG.same
  have hfew := hLG.few
  have hfl := mkF_length hsame
  have cm1 := htt.cap
  have cm2 := htt.max
  unfold maxLen at cm2
  obtain ⟨fvT, _, hfT, hrT⟩ := htt.cells (k := L.length) (by omega)
  rw [hLG.last] at hfT hrT
  obtain ⟨AT, cT, rfl, hcT1, hcT2, _⟩ := hfT.form
  have e0 : w2.cell? ⟨b, off + L.length * 7, none⟩ = some (.int .i64 10) := (hrT 0 _ rfl).trans (by rw [s1])
  have e4 : w2.cell? ⟨b, off + L.length * 7 + 4, none⟩ = some (.slice AT T.fields.length cT) := hrT 4 _ rfl
  have e5 : w2.cell? ⟨b, off + L.length * 7 + 5, none⟩ = some (.int .i64 T.size) := hrT 5 _ rfl
  have hf1 : ((T.fields.length : Int) != (ns.length : Int)) = false := by rw [s3, hfl]; simp
  have hf2 : ((os.length : Int) != (ns.length : Int)) = false := by rw [hsame]; simp
  have hf3 : ((M.length : Int) != (L.length : Int) + 1) = false := by rw [hlen]; simp
  have hz := (rowG_of hLG.right).size (L.length : Nat)
  rw [hLG.last] at hz
  have z0 := hz.1
  have z1 := hz.2
  have hf4 : (T.size % 4 != 0) = false := by simpa using s4
  have hB0 : ¬ base < 0 := by omega
  have hB1 : ¬ (L.length : Int) ≤ base := by omega
  have HRT := Lib.hid hrT
  have HS3 := Lib.hid (s3.trans hfl)
  clear hLG htt hb2 hfT hrT s1 s2 s3 s4 hz hfl hsame hlen b2
  have hML : (L.length : Int) < (M.length : Int) := by have := HLG.out.len; omega
  go_upto_if 103 with fail
  go_cut [13] from 103 to 159 (fun s13 wx => s13 = .int .i64 (size0 L base) ∧ Hid (Below w2.heap.size w2 wx))
  case first =>
    by_cases h0 : base = 0
    · subst h0
      go_wp2_with fail
      go_meet
      exact ⟨by rw [show size0 L 0 = 0 from if_pos rfl], Lib.hid (Below.refl _ _)⟩
    · have hpos : 0 < base := by omega
      obtain ⟨kb, rfl⟩ : ∃ kb : Nat, base = (kb : Int) := ⟨base.toNat, by omega⟩
      have hkb : kb < M.length := by omega
      have hkb1 : (kb : Int) < (M.length : Int) := by omega
      have hold := HLG.out.old (t := (kb : Int)) b1
      obtain ⟨fvB, _, hfB, hrB⟩ := HTT.out.cells hkb
      rw [hold] at hfB hrB
      have hs0 : size0 L (kb : Int) = (Ty.at_ L (kb : Int)).size := if_neg h0
      have HS0 := Lib.hid hs0
      have HRB := Lib.hid hrB
      have c5 : w2.cell? ⟨b, off + kb * 7 + 5, none⟩ = some (.int .i64 (Ty.at_ L (kb : Int)).size) := hrB 5 _ rfl
      obtain ⟨AB, cB, rfl, hcB1, hcB2, hAB⟩ := hfB.form
      unfold maxLen at hcB2
      have HNZ := Lib.hid h0
      clear hfB hrB hs0 hold h0 e0 e4 e5
      go_wp2_with fail
      go_loopw [14] (fun v wr => ∃ k : Nat, k ≤ (Ty.at_ L (kb : Int)).fields.length ∧ v = .int .i64 k ∧ Hid (Below w2.heap.size w2 wr)) (fun v _ => (Ty.at_ L (kb : Int)).fields.length - (intOf v).toNat)
      case atStart => exact ⟨0, Nat.zero_le _, rfl, Lib.hid (Below.refl _ _)⟩
      case round =>
        obtain ⟨k, hk, rfl, HB⟩ := hrel
        have c4 : wr.cell? ⟨b, off + kb * 7 + 4, none⟩ = some (.slice AB (Ty.at_ L (kb : Int)).fields.length cB) := range_below HRB.out HB.out hblt 4 _ rfl
        by_cases hlt : k < (Ty.at_ L (kb : Int)).fields.length
        · obtain ⟨f, hf⟩ : ∃ f, (Ty.at_ L (kb : Int)).fields[k]? = some f := ⟨_, List.getElem?_eq_getElem hlt⟩
          rcases hAB with hE | ⟨bf, of_, rfl, hbf, hrf⟩
          · rw [hE] at hlt; exact absurd hlt (by simp)
          obtain ⟨x, hx1, hx2⟩ := HLG.out.g.old HNZ.out (List.mem_of_getElem? hf)
          rw [← HLG.out.m] at hx1 hx2
          have HX1 := Lib.hid hx1
          have HX2 := Lib.hid hx2
          have HRF := Lib.hid (hrf k f hf)
          have hlt1 : (k : Int) < ((Ty.at_ L (kb : Int)).fields.length : Int) := by omega
          have n0 : wr.cell? ⟨bf, of_ + k * 3, none⟩ = some (.string f.name) := range_below HRF.out HB.out hbf 0 _ rfl
          clear hx1 hx2 hrf hf
          go_upto_region 14 with (go_at_call 8; refine (Field_any (HTT.out.below HB.out) HLG.out.right (kb : Int) f.name).mono ?_; rw [HX1.out]; simp only [fldV]; rintro e w3 ⟨rfl, hbx⟩; have hst3 := store_field_new w3 zField (fcells x) 35 rfl rfl (fcells_one x); have HB3 := Lib.hid hbx; clear hbx)
          have X3 := Lib.hid (Blk.new w3 (fcells x) 35)
          have HB4 := Lib.hid ((HB.out.trans (HB3.out.mono HB.out.size)).alloc (by have := HB.out.size; have := HB3.out.size; omega) (.cells (fcells x) 35))
          clear c4 n0 hst3
          generalize w3.alloc (.cells (fcells x) 35) = w4 at X3 HB4 ⊢
          have c4 : w4.cell? ⟨b, off + kb * 7 + 4, none⟩ = some (.slice (some ⟨bf, of_, none⟩) (Ty.at_ L (kb : Int)).fields.length cB) := range_below HRB.out HB4.out hblt 4 _ rfl
          have n0 : w4.cell? ⟨bf, of_ + k * 3, none⟩ = some (.string f.name) := range_below HRF.out HB4.out hbf 0 _ rfl
          go_upto_region 15 with (go_at_call 8; refine (Field_any (HTT.out.below HB4.out) HLG.out.right (L.length : Int) f.name).mono ?_; rw [HX2.out]; simp only [fldV]; rintro e w5 ⟨rfl, hbx⟩; have hst5 := store_field_new w5 zField (fcells x) 35 rfl rfl (fcells_one x); have HB5 := Lib.hid hbx; clear hbx)
          have X5 := Lib.hid (Blk.new w5 (fcells x) 35)
          have X35 := Lib.hid ((X3.out.step HB5.out).old (.cells (fcells x) 35))
          have HB6 := Lib.hid ((HB4.out.trans (HB5.out.mono HB4.out.size)).alloc (by have := HB4.out.size; have := HB5.out.size; omega) (.cells (fcells x) 35))
          clear c4 n0 hst5
          generalize w5.alloc (.cells (fcells x) 35) = w6 at X5 X35 HB6 ⊢
          have l1 := load_field X35.out rfl
          have l2 := load_field X5.out rfl
          have hq := neq_field x x (b := true) ⟨fun _ => rfl, fun _ => rfl⟩
          go_wp2_with fail
          go_roundw
          case rel => exact ⟨k + 1, by omega, by go_num, HB6⟩
          case measure => simp [intOf]; omega
        · obtain rfl : k = (Ty.at_ L (kb : Int)).fields.length := by omega
          go_wp2_with fail
          go_meet
          exact ⟨by rw [HS0.out], HB⟩
  case rest =>
    obtain ⟨rfl, HBC⟩ := hcut
    clear e0 e4 e5
    go_wp2_with fail
    go_loopw [13, 19] (fun u v wr => ∃ (k : Nat) (acc : List Fld) (sz : Int), k ≤ ns.length ∧ v = .int .i64 k ∧ u = .int .i64 sz ∧ Hid (recAt L base (size0 L base) (mkF ns os) k = some (acc, sz)) ∧ Hid (Below w2.heap.size w2 wr)) (fun _ v _ => ns.length - (intOf v).toNat)
    case atStart => exact ⟨0, [], _, Nat.zero_le _, rfl, rfl, Lib.hid rfl, HBC⟩
    case round =>
      obtain ⟨k, acc, sz, hk, rfl, rfl, HREC, HB⟩ := hrel
      clear HBC
      by_cases hlt : k < ns.length
      · obtain ⟨s, hs⟩ : ∃ s, ns[k]? = some s := ⟨ns[k], List.getElem?_eq_getElem hlt⟩
        obtain ⟨o, ho⟩ : ∃ o, os[k]? = some o := ⟨os[k]'(by have := HLG.out.same; omega), List.getElem?_eq_getElem (by have := HLG.out.same; omega)⟩
        obtain ⟨bn, on, rfl, hbn, hcn⟩ := HNN.out.at_ k s hs
        obtain ⟨bo, oo, rfl, hbo, hco⟩ := HOO.out.at_ k o ho
        obtain ⟨acc1, sz1, r1, r2, r3, r4, r5, acc2, r6⟩ := HLG.out.g.new (mkF_get hs ho)
        rw [HREC.out] at r1
        simp only [Option.some.injEq, Prod.mk.injEq] at r1
        obtain ⟨rfl, rfl⟩ := r1
        simp only at r4 r5 r6
        rw [← HLG.out.m] at r4
        have hin := thing_in r5
        obtain ⟨kk, rfl⟩ : ∃ kk : Nat, o = (kk : Int) := ⟨o.toNat, by omega⟩
        have hkk : kk < L.length := by omega
        have hkkM : kk < M.length := by have := HLG.out.len; omega
        have hold := HLG.out.old (t := (kk : Int)) (by omega)
        have hal : al M (kk : Int) = al L (kk : Int) := by rw [HLG.out.m]; exact al_app (rowG_of HLG.out.g.row) (by omega) (by omega)
        have hth : thing M (kk : Int) = true := by rw [HLG.out.m, thing_app (by omega)]; exact r5
        obtain ⟨fvk, _, _, hrk⟩ := HTT.out.cells hkkM
        rw [hold] at hrk
        have hzk := (rowG_of HLG.out.g.row).size (kk : Int)
        obtain ⟨g1, g2, g3⟩ := off_ge L sz (kk : Int) r2
        obtain ⟨off1, hoff⟩ : ∃ off1, offOf L sz (kk : Int) = off1 := ⟨_, rfl⟩
        rw [hoff] at g1 g2 g3 r4 r6
        have y0 := hzk.1
        have y1 := hzk.2
        have s2 : sz ≤ 4000000 := by omega
        have q1 : ¬ off1 < sz := by omega
        have q2 : ¬ 3 < off1 - sz := by omega
        have q3 : ¬ (L.length : Int) ≤ (kk : Int) := by omega
        have q4 : ¬ (kk : Int) < 0 := by omega
        have q5 : off1 ≤ 4000003 := by omega
        have q6 : 0 ≤ off1 := by omega
        have HN := Lib.hid r4
        have HTH := Lib.hid hth
        have HAL := Lib.hid hal
        have HRK := Lib.hid hrk
        have HR6 := Lib.hid r6
        have HG3 := Lib.hid g3
        have d1 : wr.cell? ⟨bn, on + k, none⟩ = some (.string s) := ((HB2.out.trans (HB.out.mono HB2.out.size)).cell (p := ⟨bn, on + k, none⟩) hbn).trans hcn
        have HCO := Lib.hid hco
        have hlt1 : (k : Int) < (ns.length : Int) := by omega
        have hlt2 : (k : Int) < (os.length : Int) := by have := HLG.out.same; omega
        have hk0 : (0 : Int) ≤ (k : Int) := by omega
        clear r2 r3 r4 r5 r6 g1 g2 g3 hin hold hal hth hrk hzk hs ho hcn hco
        go_upto_region 21 with (go_at_call 8; refine (Field_any (HTT.out.below HB.out) HLG.out.right (L.length : Int) s).mono ?_; rw [HN.out]; simp only [fldV]; rintro e w3 ⟨rfl, hbx⟩; have hst3 := store_field_new w3 zField (fcells ⟨s, kk, off1⟩) 35 rfl rfl (fcells_one ⟨s, kk, off1⟩); have HB3 := Lib.hid hbx; clear hbx)
        have X3 := Lib.hid (Blk.new w3 (fcells ⟨s, kk, off1⟩) 35)
        have HB4 := Lib.hid ((HB.out.trans (HB3.out.mono HB.out.size)).alloc (by have := HB.out.size; have := HB3.out.size; omega) (.cells (fcells ⟨s, kk, off1⟩) 35))
        clear d1 hst3
        generalize w3.alloc (.cells (fcells ⟨s, kk, off1⟩) 35) = w4 at X3 HB4 ⊢
        have x1 : w4.cell? ⟨w3.heap.size, 1, none⟩ = some (.int .i64 (kk : Int)) := X3.out.cell 1
        have x2 : w4.cell? ⟨w3.heap.size, 2, none⟩ = some (.int .i64 off1) := X3.out.cell 2
        have HBW4 := Lib.hid (HB2.out.trans (HB4.out.mono HB2.out.size))
        have d2 : w4.cell? ⟨bo, oo + k, none⟩ = some (.int .i64 (kk : Int)) := (HBW4.out.cell (p := ⟨bo, oo + k, none⟩) hbo).trans HCO.out
        have hwr : IntKind.i64.wrap (off1 - sz) = off1 - sz := IntWalk.i64_in _ (by omega)
        go_quiet (fail)
        have X5 := Lib.hid (X3.out.drewN nq)
        have HB5 := Lib.hid (belDrewN HB4.out nq)
        clear x1 x2 d2 hwr HBW4
        generalize w4.drewN nq = w5 at X5 HB5 ⊢
        have x1 : w5.cell? ⟨w3.heap.size, 1, none⟩ = some (.int .i64 (kk : Int)) := X5.out.cell 1
        have x2 : w5.cell? ⟨w3.heap.size, 2, none⟩ = some (.int .i64 off1) := X5.out.cell 2
        have HBW5 := Lib.hid (HB2.out.trans (HB5.out.mono HB2.out.size))
        have d2 : w5.cell? ⟨bo, oo + k, none⟩ = some (.int .i64 (kk : Int)) := (HBW5.out.cell (p := ⟨bo, oo + k, none⟩) hbo).trans HCO.out
        have hkkM1 : (kk : Int) < (M.length : Int) := by omega
        rcases al_12 L (kk : Int) with ha | ha
        · have HA := Lib.hid ha
          have hmod : (off1 % 1 != 0) = false := by have := HG3.out; rw [ha] at this; first | (simp; done) | (simp; omega)
          clear ha
          go_upto_region 26 with (go_at_call 9; refine (Align_any (HTT.out.below HB5.out) HLG.out.right kk hkkM HTH.out).mono ?_; rw [HAL.out, HA.out]; rintro e w6 ⟨rfl, hb6⟩; have HB6 := Lib.hid (HB5.out.trans (hb6.mono HB5.out.size)); have X6 := Lib.hid (X5.out.step hb6); have x26 : w6.cell? ⟨w3.heap.size, 2, none⟩ = some (.int .i64 off1) := X6.out.cell 2; clear hb6)
          have HBW6 := Lib.hid (HB2.out.trans (HB6.out.mono HB2.out.size))
          have d26 : w6.cell? ⟨bo, oo + k, none⟩ = some (.int .i64 (kk : Int)) := (HBW6.out.cell (p := ⟨bo, oo + k, none⟩) hbo).trans HCO.out
          have c56 : w6.cell? ⟨b, off + kk * 7 + 5, none⟩ = some (.int .i64 (Ty.at_ L (kk : Int)).size) := range_below HRK.out HB6.out hblt 5 _ rfl
          have hwr2 : IntKind.i64.wrap (off1 + (Ty.at_ L (kk : Int)).size) = off1 + (Ty.at_ L (kk : Int)).size := IntWalk.i64_in _ (by omega)
          clear x1 x2 d2
          go_quiet (fail)
          have HB7 := Lib.hid (belDrewN HB6.out nq)
          generalize w6.drewN nq = w7 at HB7 ⊢
          clear hwr2 x26 d26 c56
          go_wp2_with fail
          go_roundw
          case rel => exact ⟨k + 1, acc2, _, by omega, by go_num, rfl, HR6, HB7⟩
          case measure => simp [intOf]; omega
        · have HA := Lib.hid ha
          have hmod : (off1 % 4 != 0) = false := by have := HG3.out; rw [ha] at this; first | (simp; done) | (simp; omega)
          clear ha
          go_upto_region 26 with (go_at_call 9; refine (Align_any (HTT.out.below HB5.out) HLG.out.right kk hkkM HTH.out).mono ?_; rw [HAL.out, HA.out]; rintro e w6 ⟨rfl, hb6⟩; have HB6 := Lib.hid (HB5.out.trans (hb6.mono HB5.out.size)); have X6 := Lib.hid (X5.out.step hb6); have x26 : w6.cell? ⟨w3.heap.size, 2, none⟩ = some (.int .i64 off1) := X6.out.cell 2; clear hb6)
          have HBW6 := Lib.hid (HB2.out.trans (HB6.out.mono HB2.out.size))
          have d26 : w6.cell? ⟨bo, oo + k, none⟩ = some (.int .i64 (kk : Int)) := (HBW6.out.cell (p := ⟨bo, oo + k, none⟩) hbo).trans HCO.out
          have c56 : w6.cell? ⟨b, off + kk * 7 + 5, none⟩ = some (.int .i64 (Ty.at_ L (kk : Int)).size) := range_below HRK.out HB6.out hblt 5 _ rfl
          have hwr2 : IntKind.i64.wrap (off1 + (Ty.at_ L (kk : Int)).size) = off1 + (Ty.at_ L (kk : Int)).size := IntWalk.i64_in _ (by omega)
          clear x1 x2 d2
          go_quiet (fail)
          have HB7 := Lib.hid (belDrewN HB6.out nq)
          generalize w6.drewN nq = w7 at HB7 ⊢
          clear hwr2 x26 d26 c56
          go_wp2_with fail
          go_roundw
          case rel => exact ⟨k + 1, acc2, _, by omega, by go_num, rfl, HR6, HB7⟩
          case measure => simp [intOf]; omega
      · obtain rfl : k = ns.length := by omega
        obtain ⟨acc', sz', r1, r2, r3, r4⟩ := HLG.out.g.end_
        rw [mkF_length HLG.out.same, HREC.out] at r1
        simp only [Option.some.injEq, Prod.mk.injEq] at r1
        obtain ⟨rfl, rfl⟩ := r1
        have f5 : wr.cell? ⟨b, off + L.length * 7 + 5, none⟩ = some (.int .i64 T.size) := range_below HRT.out HB.out hblt 5 _ rfl
        go_wp2_with fail
        go_ret
        exact ⟨rfl, HB2.out.trans (HB.out.mono HB2.out.size)⟩
end
theorem good_strs {w : World} {v : Value} {bs : Nat} (h : Gen.Good w (.slice bs [.str]) v) : ∃ A cap l, v = .slice A (List.length l) cap ∧ StrsAt w A cap l := by
  obtain ⟨A, len, cap, V, rfl, hl, hm, hb, hr⟩ := h.slice_inv
  obtain ⟨L, hL, hP⟩ := list_of (P := fun i (s : ByteArray) => s.size ≤ maxLen ∧ ∃ b off, A = some ⟨b, off, none⟩ ∧ b < w.heap.size ∧ w.cell? ⟨b, off + i, none⟩ = some (.string s)) len (fun i hi => by
    obtain ⟨s, e, g⟩ := (hr.2 i 0 _ (by omega) rfl).str_inv
    obtain ⟨b, off, rfl, hlt, hc⟩ := hr.1 (by omega) (by simp)
    have := hc i 0 (by omega) (by simp)
    simp only [List.length_cons, List.length_nil, Nat.zero_add, Nat.mul_one, Nat.add_zero] at this
    exact ⟨s, Nat.le_trans g (by unfold reachBytes maxLen; omega), b, off, rfl, hlt, this.trans (by rw [e])⟩)
  refine ⟨A, cap, L, by rw [hL], by rw [hL]; exact hl, hm, fun s hs => ?_, fun k s hs => (hP k s hs).2⟩
  obtain ⟨i, hi⟩ := List.mem_iff_getElem?.1 hs
  exact (hP i s hi).1
theorem good_ints {w : World} {v : Value} {bs : Nat} (h : Gen.Good w (.slice bs [.int .i64]) v) : ∃ A cap l, v = .slice A (List.length l) cap ∧ IntsAt w A cap l := by
  obtain ⟨A, len, cap, V, rfl, hl, hm, hb, hr⟩ := h.slice_inv
  obtain ⟨L, hL, hP⟩ := list_of (P := fun i (s : Int) => (Lit.int .i64 s).wf = true ∧ ∃ b off, A = some ⟨b, off, none⟩ ∧ b < w.heap.size ∧ w.cell? ⟨b, off + i, none⟩ = some (.int .i64 s)) len (fun i hi => by
    obtain ⟨s, e, g⟩ := (hr.2 i 0 _ (by omega) rfl).int_inv
    obtain ⟨b, off, rfl, hlt, hc⟩ := hr.1 (by omega) (by simp)
    have := hc i 0 (by omega) (by simp)
    simp only [List.length_cons, List.length_nil, Nat.zero_add, Nat.mul_one, Nat.add_zero] at this
    exact ⟨s, g, b, off, rfl, hlt, this.trans (by rw [e])⟩)
  refine ⟨A, cap, L, by rw [hL], by rw [hL]; exact hl, hm, fun s hs => ?_, fun k s hs => (hP k s hs).2⟩
  obtain ⟨i, hi⟩ := List.mem_iff_getElem?.1 hs
  exact (hP i s hi).1
def typesLaidAts : List Gen.AT := [.one (.slice 72 [.int .i64, .int .i64, .int .i64, .int .i64, .slice 32 [.str, .int .i64, .int .i64], .int .i64, .int .i64]), .one (.int .i64), .one (.slice 16 [.str]), .one (.slice 8 [.int .i64])]
theorem typesLaid_args (W : World) (vs : List Value) (h : Gen.ArgsGood W typesLaidAts vs) :
    Calls Try.prog 4 vs.toArray W fun e W' => e = .returned (.bool true) ∧ Below W.heap.size W W' := by
  match vs, h with
  | [v0, v1, v2, v3], h =>
    obtain ⟨h0, h1, h2, h3, _⟩ := h
    obtain ⟨base, rfl, wb⟩ := h1.int_inv
    obtain ⟨A, cap, L, rfl, H⟩ := good_tys h0
    obtain ⟨An, cn, ns, rfl, HN⟩ := good_strs h2
    obtain ⟨Ao, co, os, rfl, HO⟩ := good_ints h3
    exact laid_any H base wb HN HO
end Go.Proofs.Ytmbnpfjimidggaa
