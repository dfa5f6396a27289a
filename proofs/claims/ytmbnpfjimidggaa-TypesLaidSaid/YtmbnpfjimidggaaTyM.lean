/- Are types a row. -/
import Derived.Test.YtmbnpfjimidggaaTyL
import Derived.Deep.CutBlock
namespace Go.Proofs.Ytmbnpfjimidggaa
open Go Go.RowKit Go.Lib Go.Proofs.Ytmbnpfjimidggaa.Ty
set_option linter.unusedVariables false
set_option linter.unusedSimpArgs false
attribute [local go_sem ↓] exec_load_type exec_store_type exec_load_field exec_store_field
attribute [local go_sem] tcells fcells
theorem basicL_len : basicL.length = 8 := rfl
theorem basicL_at {k : Nat} (hk : k < 8) : Ty.at_ basicL (k : Nat) = basicT k := by
  rw [Ty.at_nat (by rw [basicL_len]; exact hk)]
  unfold basicL
  rw [List.getD_eq_getElem?_getD, List.getElem?_map, List.getElem?_range hk]; rfl
/-- What stands behind the switch: the type that is wanted. -/
structure WantS (w : World) (L : List Typ) (k : Nat) (t : Typ) (fv : Value) (gt : Nat) (ok : Bool) (T : Typ) (tv : Value) (wx : World) : Prop where
  bel : Below w.heap.size w wx
  bt : Blk wx gt (tcells t fv) 27
  bw : Blk wx (gt + 1) (tcells T tv) 27
  yes : ok = true → want L k = some T ∧ FldsAt wx tv T.fields
  no : ok = false → want L k = none
theorem FldsAt.touch {w w' : World} {fv : Value} {F : List Fld} {r : List Nat} (h : FldsAt w fv F) (T : Touch w w' r) (hn : ∀ g, fv.ownBlock = some g → g ∉ r) : FldsAt w' fv F := by
  obtain ⟨A, cap, rfl, h1, h2, h3, h4⟩ := h
  refine ⟨A, cap, rfl, h1, h2, h3, fun k f hf => ?_⟩
  obtain ⟨b, off, rfl, hlt, hr⟩ := h4 k f hf
  exact ⟨b, off, rfl, Nat.lt_of_lt_of_le hlt T.size, T.range hr (hn b rfl)⟩
theorem want_at {L : List Typ} {k : Nat} (hk : k < L.length) : want L k = if (Ty.at_ L (k : Nat)).form = 8 then arrayT (L.take k) (Ty.at_ L (k : Nat)).len (Ty.at_ L (k : Nat)).elem
  else if (Ty.at_ L (k : Nat)).form = 9 then openT (L.take k) (Ty.at_ L (k : Nat)).elem
  else if (Ty.at_ L (k : Nat)).form = 11 then pointerT L (Ty.at_ L (k : Nat)).elem
  else if (Ty.at_ L (k : Nat)).form = 10 then recordT (L.take k) (Ty.at_ L (k : Nat)).base (Ty.at_ L (k : Nat)).fields
  else none := by
  unfold want; rw [Ty.at_nat hk]
theorem step_ge {L : List Typ} {k : Nat} (hk : k < L.length) (h8 : ¬ k < 8) : stepOk L k ↔ ∃ T, want L k = some T ∧ T.size ≤ 16384 ∧ Ty.at_ L (k : Nat) = T := by
  unfold stepOk; rw [if_neg h8, Ty.at_nat hk]
theorem step_lt {L : List Typ} {k : Nat} (hk : k < L.length) (h8 : k < 8) : stepOk L k ↔ Ty.at_ L (k : Nat) = basicT k := by
  unfold stepOk; rw [if_pos h8, Ty.at_nat hk]
section
variable {w : World} {A : Option Addr} {cap : Nat} {L : List Typ}
theorem record_yes (H : TysAt w A cap L) (hL : 0 < L.length) (G : RowG L) (base : Int) (hbw : (Lit.int .i64 base).wf = true) {fv : Value} {F : List Fld} (hF : FldsAt w fv F) {T : Typ} (hT : recordT L base F = some T) :
    Calls Try.prog 16 #[.slice A L.length cap, .int .i64 base, fv] w (Made T w) := by
  have := record_any H hL G base hbw hF
  rw [hT] at this; exact this
theorem record_no (H : TysAt w A cap L) (hL : 0 < L.length) (G : RowG L) (base : Int) (hbw : (Lit.int .i64 base).wf = true) {fv : Value} {F : List Fld} (hF : FldsAt w fv F) (hT : recordT L base F = none) :
    Calls Try.prog 16 #[.slice A L.length cap, .int .i64 base, fv] w (MadeNo w) := by
  have := record_any H hL G base hbw hF
  rw [hT] at this; exact this
set_option maxHeartbeats 8000000 in
set_option maxRecDepth 100000 in
theorem isrow_any (H : TysAt w A cap L) {c : Bool} (hc : c = true ↔ isRowP L) :
    Calls Try.prog 17 #[.slice A L.length cap] w fun e w' => e = .returned (.bool c) ∧ Below w.heap.size w w' := by
  have hcap := H.cap
  have hmax := H.max
  unfold maxLen at hmax
  have HC := Lib.hid hc
  have HH := Lib.hid H
  clear hc
  by_cases h1 : L.length < 8
  case pos =>
    have h11 : (L.length : Int) < 8 := by omega
    obtain rfl := no_of (c := c) (P := isRowP L) (fun h => by have := h.1; omega) HC.out.1
    clear H h1
    go_enter Try.func17, Try.ntmps17
    go_wp2_with fail
    go_step3
    go_wp2_with (go_at_call 11; refine basic_any.mono ?_; rintro e w1 ⟨Ab, cb, rfl, hTb, hb1⟩)
    rw [Exit.noGoto_ret]
    go_ret
    exact ⟨rfl, hb1⟩
  by_cases h2 : 200 < L.length
  case pos =>
    have h11 : ¬ (L.length : Int) < 8 := by omega
    have h21 : (200 : Int) < (L.length : Int) := by omega
    obtain rfl := no_of (c := c) (P := isRowP L) (fun h => by have := h.2.1; omega) HC.out.1
    clear H h1 h2
    go_enter Try.func17, Try.ntmps17
    go_wp2_with fail
    go_step3
    go_wp2_with (go_at_call 11; refine basic_any.mono ?_; rintro e w1 ⟨Ab, cb, rfl, hTb, hb1⟩)
    rw [Exit.noGoto_ret]
    go_ret
    exact ⟨rfl, hb1⟩
  have h11 : ¬ (L.length : Int) < 8 := by omega
  have h21 : ¬ (200 : Int) < (L.length : Int) := by omega
  obtain ⟨b, off, fv0, rfl, hb, _⟩ := H.get (k := 0) (by omega)
  clear H
  go_enter Try.func17, Try.ntmps17
  go_wp2_with fail
  go_step3
  go_wp2_with (go_at_call 11; refine basic_any.mono ?_; rintro e w1 ⟨Ab, cb, rfl, hTb, hb1⟩; have HTB := Lib.hid hTb; have HB1 := Lib.hid hb1; clear hTb hb1)
  go_step3
  go_wp2_with fail
  obtain ⟨bb, ob, _, rfl, hbb, _⟩ := HTB.out.get (k := 0) (by rw [basicL_len]; omega)
  go_loopw [22] (fun v wr => ∃ k : Nat, k ≤ L.length ∧ v = .int .i64 k ∧ Hid (∀ j, j < k → stepOk L j) ∧ Hid (Below w1.heap.size w1 wr)) (fun v _ => L.length - (intOf v).toNat)
  case atStart => exact ⟨0, by omega, rfl, Lib.hid (fun j hj => absurd hj (by omega)), Lib.hid (Below.refl _ _)⟩
  case round =>
    obtain ⟨k, hk, rfl, HN, HB⟩ := hrel
    by_cases hlt : k < L.length
    · obtain ⟨fv, _, hfv, hr⟩ := HH.out.cells hlt
      have HFV := Lib.hid hfv
      have HR := Lib.hid hr
      have HBW := Lib.hid (HB1.out.trans (HB.out.mono HB1.out.size))
      have hl := load_type_mid (range_below HR.out HBW.out hb) rfl
      have hst := store_type_new wr zType _ 27 rfl rfl (tcells_one (t := Ty.at_ L (k : Nat)) HFV.out.one)
      clear hfv hr
      have hlt2 : (k : Int) < (L.length : Int) := by omega
      by_cases hk8 : k < 8
      · have hk81 : (k : Int) < 8 := by omega
        obtain ⟨fb, _, hfb, hrb⟩ := HTB.out.cells (k := k) (by rw [basicL_len]; exact hk8)
        have HFB := Lib.hid hfb
        have HRB := Lib.hid hrb
        clear hfb hrb
        go_upto_region 8 with fail
        have KT := Lib.hid (Blk.new wr (tcells (Ty.at_ L (k : Nat)) fv) 27)
        have HBX := Lib.hid (HB.out.alloc HB.out.size (.cells (tcells (Ty.at_ L (k : Nat)) fv) 27))
        clear hl hst
        generalize wr.alloc (.cells (tcells (Ty.at_ L (k : Nat)) fv) 27) = W1 at KT HBX ⊢
        have k0 : (0 : Int) ≤ (k : Int) := by omega
        by_cases he : Ty.at_ L (k : Nat) = basicT k
        · have HE := Lib.hid (show true = true ↔ Ty.at_ L (k : Nat) = Ty.at_ basicL (k : Nat) from ⟨fun _ => by rw [basicL_at hk8]; exact he, fun _ => rfl⟩)
          have HI := Lib.hid (show ∀ j, j < k + 1 → stepOk L j from fun j hj => by
            by_cases e : j = k
            · subst e; exact (step_lt hlt hk8).2 he
            · exact HN.out j (by omega))
          clear he
          refine wp_region_held_drew (S := (fun w' => Hid (Blk w' wr.heap.size (tcells (Ty.at_ L (k : Nat)) fv) 27) ∧ Hid (Below w1.heap.size w1 w'))) (by kernel_rfl) ⟨KT, Lib.hid HBX.out.drew⟩ (fun hHeld0 => ?_)
          clear hHeld0
          have KTd : Hid (Blk W1.drew wr.heap.size (tcells (Ty.at_ L (k : Nat)) fv) 27) := KT
          have HBd : Hid (Below w1.heap.size w1 W1.drew) := Lib.hid HBX.out.drew
          generalize W1.drew = wd at KTd HBd ⊢
          have hHeld : (fun w' => Hid (Blk w' wr.heap.size (tcells (Ty.at_ L (k : Nat)) fv) 27) ∧ Hid (Below w1.heap.size w1 w')) wd := ⟨KTd, HBd⟩
          refine tke 0 (v := ?v0) ?hy0 hHeld ?rest0
          case hy0 => rintro wq ⟨qT, qB⟩; have l1 := load_type qT.out rfl; clear qT qB; simp only [List.getElem_toArray, List.getElem_cons_zero, List.getElem_cons_succ]; go_simp; try with_reducible rfl
          refine tke 1 (v := ?v1) ?hy1 hHeld ?rest1
          case hy1 => rintro wq ⟨qT, qB⟩; clear qT qB; simp only [List.getElem_toArray, List.getElem_cons_zero, List.getElem_cons_succ]; go_simp; try with_reducible rfl
          refine tke 2 (v := ?v2) ?hy2 hHeld ?rest2
          case hy2 => rintro wq ⟨qT, qB⟩; clear qT qB; simp only [List.getElem_toArray, List.getElem_cons_zero, List.getElem_cons_succ]; go_simp; try with_reducible rfl
          refine tke 3 (v := ?v3) ?hy3 hHeld ?rest3
          case hy3 => rintro wq ⟨qT, qB⟩; clear qT qB; simp only [List.getElem_toArray, List.getElem_cons_zero, List.getElem_cons_succ]; go_simp; try with_reducible rfl
          refine tke 4 (v := ?v4) ?hy4 hHeld ?rest4
          case hy4 => rintro wq ⟨qT, qB⟩; have l2 := load_type_mid (range_below HRB.out qB.out hbb) rfl; clear qT qB; simp only [List.getElem_toArray, List.getElem_cons_zero, List.getElem_cons_succ]; go_simp; try with_reducible rfl
          refine wpAnyH_ready (rs := [5]) (by kernel_rfl) (by simp) ?_
          refine AllReadyH.cons (o := _) rfl (fun K hK => ?_) AllReadyH.nil
          try simp only [List.getElem_toArray, List.getElem_cons_zero, List.getElem_cons_succ]
          go_simp
          go_at_call 25
          refine (same_any (Ty.at_ L (k : Nat)) (Ty.at_ basicL (k : Nat)) (HFV.out.below (HB1.out.trans (HBd.out.mono HB1.out.size))) (HFB.out.below HBd.out) (c := true) HE.out).mono ?_
          rintro e w5 ⟨rfl, hb5⟩
          have KT5 := Lib.hid (KTd.out.step hb5)
          have HB5 := Lib.hid (HBd.out.trans (hb5.mono HBd.out.size))
          clear hb5 hHeld
          refine hK.out _ _ ⟨KT5, HB5⟩ (fun _ => ?_)
          try simp only [List.getElem_toArray, List.getElem_cons_zero, List.getElem_cons_succ]
          have hHeld : (fun w' => Hid (Blk w' wr.heap.size (tcells (Ty.at_ L (k : Nat)) fv) 27) ∧ Hid (Below w1.heap.size w1 w')) w5 := ⟨KT5, HB5⟩
          refine tke 6 (v := ?v6) ?hy6 hHeld ?rest6
          case hy6 => rintro wq ⟨qT, qB⟩; clear qT qB; simp only [List.getElem_toArray, List.getElem_cons_zero, List.getElem_cons_succ]; go_simp; try with_reducible rfl
          refine wpAnyH_done (by kernel_rfl) ?_ _
          clear hHeld KTd HBd KT HBX hK
          go_wp2_with fail
          go_roundw
          case rel => exact ⟨k + 1, by omega, by go_num, HI, HB5⟩
          case measure => simp [intOf]; omega
        · have HE := Lib.hid (show false = true ↔ Ty.at_ L (k : Nat) = Ty.at_ basicL (k : Nat) from ⟨(fun h => by cases h), fun h => absurd (h.trans (basicL_at hk8)) he⟩)
          obtain rfl := no_of (c := c) (P := isRowP L) (fun h => he ((step_lt hlt hk8).1 (h.2.2 _ hlt))) HC.out.1
          clear he
          refine wp_region_held_drew (S := (fun w' => Hid (Blk w' wr.heap.size (tcells (Ty.at_ L (k : Nat)) fv) 27) ∧ Hid (Below w1.heap.size w1 w'))) (by kernel_rfl) ⟨KT, Lib.hid HBX.out.drew⟩ (fun hHeld0 => ?_)
          clear hHeld0
          have KTd : Hid (Blk W1.drew wr.heap.size (tcells (Ty.at_ L (k : Nat)) fv) 27) := KT
          have HBd : Hid (Below w1.heap.size w1 W1.drew) := Lib.hid HBX.out.drew
          generalize W1.drew = wd at KTd HBd ⊢
          have hHeld : (fun w' => Hid (Blk w' wr.heap.size (tcells (Ty.at_ L (k : Nat)) fv) 27) ∧ Hid (Below w1.heap.size w1 w')) wd := ⟨KTd, HBd⟩
          refine tke 0 (v := ?v0b) ?hy0b hHeld ?rest0b
          case hy0b => rintro wq ⟨qT, qB⟩; have l1 := load_type qT.out rfl; clear qT qB; simp only [List.getElem_toArray, List.getElem_cons_zero, List.getElem_cons_succ]; go_simp; try with_reducible rfl
          refine tke 1 (v := ?v1b) ?hy1b hHeld ?rest1b
          case hy1b => rintro wq ⟨qT, qB⟩; clear qT qB; simp only [List.getElem_toArray, List.getElem_cons_zero, List.getElem_cons_succ]; go_simp; try with_reducible rfl
          refine tke 2 (v := ?v2b) ?hy2b hHeld ?rest2b
          case hy2b => rintro wq ⟨qT, qB⟩; clear qT qB; simp only [List.getElem_toArray, List.getElem_cons_zero, List.getElem_cons_succ]; go_simp; try with_reducible rfl
          refine tke 3 (v := ?v3b) ?hy3b hHeld ?rest3b
          case hy3b => rintro wq ⟨qT, qB⟩; clear qT qB; simp only [List.getElem_toArray, List.getElem_cons_zero, List.getElem_cons_succ]; go_simp; try with_reducible rfl
          refine tke 4 (v := ?v4b) ?hy4b hHeld ?rest4b
          case hy4b => rintro wq ⟨qT, qB⟩; have l2 := load_type_mid (range_below HRB.out qB.out hbb) rfl; clear qT qB; simp only [List.getElem_toArray, List.getElem_cons_zero, List.getElem_cons_succ]; go_simp; try with_reducible rfl
          refine wpAnyH_ready (rs := [5]) (by kernel_rfl) (by simp) ?_
          refine AllReadyH.cons (o := _) rfl (fun K hK => ?_) AllReadyH.nil
          try simp only [List.getElem_toArray, List.getElem_cons_zero, List.getElem_cons_succ]
          go_simp
          go_at_call 25
          refine (same_any (Ty.at_ L (k : Nat)) (Ty.at_ basicL (k : Nat)) (HFV.out.below (HB1.out.trans (HBd.out.mono HB1.out.size))) (HFB.out.below HBd.out) (c := false) HE.out).mono ?_
          rintro e w5 ⟨rfl, hb5⟩
          have KT5 := Lib.hid (KTd.out.step hb5)
          have HB5 := Lib.hid (HBd.out.trans (hb5.mono HBd.out.size))
          clear hb5 hHeld
          refine hK.out _ _ ⟨KT5, HB5⟩ (fun _ => ?_)
          try simp only [List.getElem_toArray, List.getElem_cons_zero, List.getElem_cons_succ]
          have hHeld : (fun w' => Hid (Blk w' wr.heap.size (tcells (Ty.at_ L (k : Nat)) fv) 27) ∧ Hid (Below w1.heap.size w1 w')) w5 := ⟨KT5, HB5⟩
          refine tke 6 (v := ?v6b) ?hy6b hHeld ?rest6b
          case hy6b => rintro wq ⟨qT, qB⟩; clear qT qB; simp only [List.getElem_toArray, List.getElem_cons_zero, List.getElem_cons_succ]; go_simp; try with_reducible rfl
          refine wpAnyH_done (by kernel_rfl) ?_ _
          clear hHeld KTd HBd KT HBX hK
          go_wp2_with fail
          try rw [Exit.noGoto_ret]
          go_ret
          exact ⟨rfl, HB1.out.trans (HB5.out.mono HB1.out.size)⟩
      · have hk81 : ¬ (k : Int) < 8 := by omega
        go_upto_block 2 with fail
        have hgt : w.heap.size ≤ wr.heap.size := HBW.out.size
        have KT := Lib.hid ((Blk.new wr (tcells (Ty.at_ L (k : Nat)) fv) 27).old (.cells zType 27))
        have kw := Blk.new (wr.alloc (.cells (tcells (Ty.at_ L (k : Nat)) fv) 27)) zType 27
        simp only [World.size_alloc] at kw
        have KW := Lib.hid kw
        have HB2 := Lib.hid ((HB.out.alloc HB.out.size (.cells (tcells (Ty.at_ L (k : Nat)) fv) 27)).alloc (by have := HB.out.size; simp; omega) (.cells zType 27))
        have HB2w := Lib.hid (HB1.out.trans (HB2.out.mono HB1.out.size))
        have hgt1 : w1.heap.size ≤ wr.heap.size := HB.out.size
        have HT1 := Lib.hid ((((Below.refl wr.heap.size wr).alloc (Nat.le_refl _) (.cells (tcells (Ty.at_ L (k : Nat)) fv) 27)).alloc (by simp) (.cells zType 27)))
        clear kw hl hst
        generalize (wr.alloc (.cells (tcells (Ty.at_ L (k : Nat)) fv) 27)).alloc (.cells zType 27) = W2 at KT KW HB2 HB2w HT1 ⊢
        obtain ⟨P, HP⟩ : ∃ P, Hid (P = L.take k) := ⟨_, Lib.hid rfl⟩
        have hPl : P.length = k := by rw [HP.out, List.length_take]; omega
        have hWA := want_at hlt
        rw [← HP.out] at hWA
        have HWA := Lib.hid hWA
        clear hWA
        subst hPl
        have HTP := Lib.hid (show TysAt w (some ⟨b, off, none⟩) cap P by rw [HP.out]; exact HH.out.take _)
        have HGP := Lib.hid (show RowG P by rw [HP.out]; exact rowG_take (by omega) _ hk HN.out)
        have hP0 : 0 < P.length := by omega
        have t1 : W2.cell? ⟨wr.heap.size, 1, none⟩ = some (.int .i64 (Ty.at_ L (P.length : Nat)).len) := KT.out.cell 1
        have t2 : W2.cell? ⟨wr.heap.size, 2, none⟩ = some (.int .i64 (Ty.at_ L (P.length : Nat)).elem) := KT.out.cell 2
        have t3 : W2.cell? ⟨wr.heap.size, 3, none⟩ = some (.int .i64 (Ty.at_ L (P.length : Nat)).base) := KT.out.cell 3
        have t4 : W2.cell? ⟨wr.heap.size, 4, none⟩ = some fv := KT.out.cell 4
        go_cut [8] from 38 to 82 (fun s8 wx => ∃ ok T tv, s8 = .bool ok ∧ Hid (WantS w1 L P.length (Ty.at_ L (P.length : Nat)) fv wr.heap.size ok T tv wx))
        case first =>
          by_cases f8 : (Ty.at_ L (P.length : Nat)).form = 8
          · have g8 : ((Ty.at_ L (P.length : Nat)).form == 8) = true := by simpa using f8
            have HW := Lib.hid (show want L P.length = arrayT P (Ty.at_ L (P.length : Nat)).len (Ty.at_ L (P.length : Nat)).elem by rw [HWA.out, if_pos f8])
            clear f8
            cases ho : arrayT P (Ty.at_ L (P.length : Nat)).len (Ty.at_ L (P.length : Nat)).elem with
            | some T =>
              have HT := Lib.hid ho
              clear ho
              go_wp2_with (go_at_call 22; refine (array_yes (HTP.out.below HB2w.out) HGP.out _ _ HT.out).mono ?_; rintro e W3 ⟨tv, rfl, htv, hb3, hn3⟩; have hst3 := store_type (KW.out.step hb3) rfl rfl (tcells_one (t := T) htv.one); have HTV := Lib.hid htv; have HB3 := Lib.hid hb3; have HN3 := Lib.hid hn3; clear hb3 htv hn3)
              go_meet
              exact ⟨true, T, tv, rfl, Lib.hid ⟨belRow (HB2.out.trans (HB3.out.mono HB2.out.size)) (by omega) _, (KT.out.step HB3.out).farRow (by omega) _, (KW.out.step HB3.out).setRow _, fun _ => ⟨by rw [HW.out]; exact HT.out, HTV.out.touch (Touch.row _ _ _) (fun g hg => by have := HN3.out g hg; have := KW.out.lt; simp; omega)⟩, fun h => by cases h⟩⟩
            | none =>
              have HT := Lib.hid ho
              clear ho
              go_wp2_with (go_at_call 22; refine (array_no (HTP.out.below HB2w.out) _ _ HT.out).mono ?_; rintro e W3 ⟨T, tv, rfl, htv, hb3⟩; have hst3 := store_type (KW.out.step hb3) rfl rfl (tcells_one (t := T) htv); have HB3 := Lib.hid hb3; clear hb3)
              go_meet
              exact ⟨false, T, tv, rfl, Lib.hid ⟨belRow (HB2.out.trans (HB3.out.mono HB2.out.size)) (by omega) _, (KT.out.step HB3.out).farRow (by omega) _, (KW.out.step HB3.out).setRow _, (fun h => by cases h), fun _ => by rw [HW.out]; exact HT.out⟩⟩
          have g8 : ((Ty.at_ L (P.length : Nat)).form == 8) = false := by simpa using f8
          by_cases f9 : (Ty.at_ L (P.length : Nat)).form = 9
          · have g9 : ((Ty.at_ L (P.length : Nat)).form == 9) = true := by simpa using f9
            have HW := Lib.hid (show want L P.length = openT P (Ty.at_ L (P.length : Nat)).elem by rw [HWA.out, if_neg f8, if_pos f9])
            clear f8 f9
            cases ho : openT P (Ty.at_ L (P.length : Nat)).elem with
            | some T =>
              have HT := Lib.hid ho
              clear ho
              go_wp2_with (go_at_call 26; refine (open_yes (HTP.out.below HB2w.out) _ HT.out).mono ?_; rintro e W3 ⟨tv, rfl, htv, hb3, hn3⟩; have hst3 := store_type (KW.out.step hb3) rfl rfl (tcells_one (t := T) htv.one); have HTV := Lib.hid htv; have HB3 := Lib.hid hb3; have HN3 := Lib.hid hn3; clear hb3 htv hn3)
              go_meet
              exact ⟨true, T, tv, rfl, Lib.hid ⟨belRow (HB2.out.trans (HB3.out.mono HB2.out.size)) (by omega) _, (KT.out.step HB3.out).farRow (by omega) _, (KW.out.step HB3.out).setRow _, fun _ => ⟨by rw [HW.out]; exact HT.out, HTV.out.touch (Touch.row _ _ _) (fun g hg => by have := HN3.out g hg; have := KW.out.lt; simp; omega)⟩, fun h => by cases h⟩⟩
            | none =>
              have HT := Lib.hid ho
              clear ho
              go_wp2_with (go_at_call 26; refine (open_no (HTP.out.below HB2w.out) _ HT.out).mono ?_; rintro e W3 ⟨T, tv, rfl, htv, hb3⟩; have hst3 := store_type (KW.out.step hb3) rfl rfl (tcells_one (t := T) htv); have HB3 := Lib.hid hb3; clear hb3)
              go_meet
              exact ⟨false, T, tv, rfl, Lib.hid ⟨belRow (HB2.out.trans (HB3.out.mono HB2.out.size)) (by omega) _, (KT.out.step HB3.out).farRow (by omega) _, (KW.out.step HB3.out).setRow _, (fun h => by cases h), fun _ => by rw [HW.out]; exact HT.out⟩⟩
          have g9 : ((Ty.at_ L (P.length : Nat)).form == 9) = false := by simpa using f9
          by_cases f11 : (Ty.at_ L (P.length : Nat)).form = 11
          · have g11 : ((Ty.at_ L (P.length : Nat)).form == 11) = true := by simpa using f11
            have HW := Lib.hid (show want L P.length = pointerT L (Ty.at_ L (P.length : Nat)).elem by rw [HWA.out, if_neg f8, if_neg f9, if_pos f11])
            clear f8 f9 f11
            cases ho : pointerT L (Ty.at_ L (P.length : Nat)).elem with
            | some T =>
              have HT := Lib.hid ho
              clear ho
              go_wp2_with (go_at_call 27; refine (pointer_yes (HH.out.below HB2w.out) _ HT.out).mono ?_; rintro e W3 ⟨tv, rfl, htv, hb3, hn3⟩; have hst3 := store_type (KW.out.step hb3) rfl rfl (tcells_one (t := T) htv.one); have HTV := Lib.hid htv; have HB3 := Lib.hid hb3; have HN3 := Lib.hid hn3; clear hb3 htv hn3)
              go_meet
              exact ⟨true, T, tv, rfl, Lib.hid ⟨belRow (HB2.out.trans (HB3.out.mono HB2.out.size)) (by omega) _, (KT.out.step HB3.out).farRow (by omega) _, (KW.out.step HB3.out).setRow _, fun _ => ⟨by rw [HW.out]; exact HT.out, HTV.out.touch (Touch.row _ _ _) (fun g hg => by have := HN3.out g hg; have := KW.out.lt; simp; omega)⟩, fun h => by cases h⟩⟩
            | none =>
              have HT := Lib.hid ho
              clear ho
              go_wp2_with (go_at_call 27; refine (pointer_no (HH.out.below HB2w.out) _ HT.out).mono ?_; rintro e W3 ⟨T, tv, rfl, htv, hb3⟩; have hst3 := store_type (KW.out.step hb3) rfl rfl (tcells_one (t := T) htv); have HB3 := Lib.hid hb3; clear hb3)
              go_meet
              exact ⟨false, T, tv, rfl, Lib.hid ⟨belRow (HB2.out.trans (HB3.out.mono HB2.out.size)) (by omega) _, (KT.out.step HB3.out).farRow (by omega) _, (KW.out.step HB3.out).setRow _, (fun h => by cases h), fun _ => by rw [HW.out]; exact HT.out⟩⟩
          have g11 : ((Ty.at_ L (P.length : Nat)).form == 11) = false := by simpa using f11
          by_cases f10 : (Ty.at_ L (P.length : Nat)).form = 10
          · have g10 : ((Ty.at_ L (P.length : Nat)).form == 10) = true := by simpa using f10
            have HW := Lib.hid (show want L P.length = recordT P (Ty.at_ L (P.length : Nat)).base (Ty.at_ L (P.length : Nat)).fields by rw [HWA.out, if_neg f8, if_neg f9, if_neg f11, if_pos f10])
            clear f8 f9 f10 f11
            cases ho : recordT P (Ty.at_ L (P.length : Nat)).base (Ty.at_ L (P.length : Nat)).fields with
            | some T =>
              have HT := Lib.hid ho
              clear ho
              go_wp2_with (go_at_call 16; refine (record_yes (HTP.out.below HB2w.out) hP0 HGP.out _ (HH.out.tok _).2.2.2.1 (HFV.out.below HB2w.out) HT.out).mono ?_; rintro e W3 ⟨tv, rfl, htv, hb3, hn3⟩; have hst3 := store_type (KW.out.step hb3) rfl rfl (tcells_one (t := T) htv.one); have HTV := Lib.hid htv; have HB3 := Lib.hid hb3; have HN3 := Lib.hid hn3; clear hb3 htv hn3)
              go_meet
              exact ⟨true, T, tv, rfl, Lib.hid ⟨belRow (HB2.out.trans (HB3.out.mono HB2.out.size)) (by omega) _, (KT.out.step HB3.out).farRow (by omega) _, (KW.out.step HB3.out).setRow _, fun _ => ⟨by rw [HW.out]; exact HT.out, HTV.out.touch (Touch.row _ _ _) (fun g hg => by have := HN3.out g hg; have := KW.out.lt; simp; omega)⟩, fun h => by cases h⟩⟩
            | none =>
              have HT := Lib.hid ho
              clear ho
              go_wp2_with (go_at_call 16; refine (record_no (HTP.out.below HB2w.out) hP0 HGP.out _ (HH.out.tok _).2.2.2.1 (HFV.out.below HB2w.out) HT.out).mono ?_; rintro e W3 ⟨T, tv, rfl, htv, hb3⟩; have hst3 := store_type (KW.out.step hb3) rfl rfl (tcells_one (t := T) htv); have HB3 := Lib.hid hb3; clear hb3)
              go_meet
              exact ⟨false, T, tv, rfl, Lib.hid ⟨belRow (HB2.out.trans (HB3.out.mono HB2.out.size)) (by omega) _, (KT.out.step HB3.out).farRow (by omega) _, (KW.out.step HB3.out).setRow _, (fun h => by cases h), fun _ => by rw [HW.out]; exact HT.out⟩⟩
          have g10 : ((Ty.at_ L (P.length : Nat)).form == 10) = false := by simpa using f10
          have HW := Lib.hid (show want L P.length = none by rw [HWA.out, if_neg f8, if_neg f9, if_neg f11, if_neg f10])
          clear f8 f9 f10 f11
          go_wp2_with fail
          go_meet
          exact ⟨false, ⟨0, 0, 0, 0, [], 0, 0⟩, .slice none 0 0, rfl, Lib.hid ⟨HB2.out, KT.out, KW.out, (fun h => by cases h), fun _ => HW.out⟩⟩
        case rest =>
          obtain ⟨ok, T, tv, rfl, HWS⟩ := hcut
          clear KT KW HB2 HB2w HT1 t1 t2 t3 t4 HWA
          have HX := Lib.hid (HB1.out.trans (HWS.out.bel.mono HB1.out.size))
          cases ok with
          | false =>
            have hno := HWS.out.no rfl
            obtain rfl := no_of (c := c) (P := isRowP L) (fun h => by
              obtain ⟨T', e, _⟩ := (step_ge hlt hk8).1 (h.2.2 _ hlt)
              rw [hno] at e; cases e) HC.out.1
            clear hno
            go_wp2_with fail
            try rw [Exit.noGoto_ret]
            go_ret
            exact ⟨rfl, HX.out⟩
          | true =>
            have w5 : wc.cell? ⟨wr.heap.size + 1, 5, none⟩ = some (.int .i64 T.size) := HWS.out.bw.cell 5
            have lt := load_type HWS.out.bt rfl
            have lw := load_type HWS.out.bw rfl
            have hyes := HWS.out.yes rfl
            have HY := Lib.hid hyes
            clear hyes
            by_cases hs : 16384 < T.size
            · obtain rfl := no_of (c := c) (P := isRowP L) (fun h => by
                obtain ⟨T', e, h2, _⟩ := (step_ge hlt hk8).1 (h.2.2 _ hlt)
                rw [HY.out.1] at e; cases e; omega) HC.out.1
              go_wp2_with fail
              try rw [Exit.noGoto_ret]
              go_ret
              exact ⟨rfl, HX.out⟩
            · by_cases he : Ty.at_ L (P.length : Nat) = T
              · have HI := Lib.hid (show ∀ j, j < P.length + 1 → stepOk L j from fun j hj => by
                  by_cases e : j = P.length
                  · subst e; exact (step_ge hlt hk8).2 ⟨T, HY.out.1, by omega, he⟩
                  · exact HN.out j (by omega))
                have HE := Lib.hid he
                clear he
                go_wp2_with (go_at_call 25; refine (same_any (Ty.at_ L (P.length : Nat)) T (HFV.out.below HX.out) HY.out.2 (c := true) ⟨fun _ => HE.out, fun _ => rfl⟩).mono ?_; rintro e w5 ⟨rfl, hb5⟩; have HB5 := Lib.hid hb5; clear hb5)
                go_roundw
                case rel => exact ⟨P.length + 1, by omega, by go_num, HI, Lib.hid (HWS.out.bel.trans (HB5.out.mono HWS.out.bel.size))⟩
                case measure => simp [intOf]; omega
              · obtain rfl := no_of (c := c) (P := isRowP L) (fun h => by
                  obtain ⟨T', e, _, h3⟩ := (step_ge hlt hk8).1 (h.2.2 _ hlt)
                  rw [HY.out.1] at e; cases e; exact he h3) HC.out.1
                have HE := Lib.hid he
                clear he
                go_wp2_with (go_at_call 25; refine (same_any (Ty.at_ L (P.length : Nat)) T (HFV.out.below HX.out) HY.out.2 (c := false) ⟨(fun h => by cases h), fun h => absurd h HE.out⟩).mono ?_; rintro e w5 ⟨rfl, hb5⟩)
                try rw [Exit.noGoto_ret]
                go_ret
                exact ⟨rfl, HX.out.trans (hb5.mono HX.out.size)⟩
    · obtain rfl : k = L.length := by omega
      obtain rfl : c = true := HC.out.2 ⟨by omega, by omega, HN.out⟩
      go_wp2_with fail
      try rw [Exit.noGoto_ret]
      go_ret
      exact ⟨rfl, HB1.out.trans (HB.out.mono HB1.out.size)⟩
end
end Go.Proofs.Ytmbnpfjimidggaa
