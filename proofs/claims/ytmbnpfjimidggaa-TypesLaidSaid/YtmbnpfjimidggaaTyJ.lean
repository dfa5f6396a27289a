/- Is a record one of another. -/
import Derived.Test.YtmbnpfjimidggaaTyI
namespace Go.Proofs.Ytmbnpfjimidggaa
open Go Go.RowKit Go.Lib Go.Proofs.Ytmbnpfjimidggaa.Ty
set_option linter.unusedVariables false
set_option linter.unusedSimpArgs false
attribute [local go_sem ↓] exec_load_type exec_store_type exec_load_field exec_store_field
attribute [local go_sem] tcells fcells
section
variable {w : World} {A : Option Addr} {cap : Nat} {L : List Typ}
set_option maxHeartbeats 8000000 in
set_option maxRecDepth 100000 in
theorem extends_any (H : TysAt w A cap L) (hL : 0 < L.length) (G : RowG L) (t0 b0 : Int) :
    Calls Try.prog 13 #[.slice A L.length cap, .int .i64 t0, .int .i64 b0] w fun e w' => e = .returned (.bool (ext L t0 b0)) ∧ Below w.heap.size w w' := by
  obtain ⟨b, off, fv0, rfl, hb, _⟩ := H.get hL
  have F0 := field_type0
  have HH := Lib.hid H
  have HG := Lib.hid G
  clear H G hL
  have HBr := Lib.hid (Below.refl w.heap.size w)
  have HH0 := HH
  by_cases h1 : (Ty.at_ L t0).form = 11
  · have h11 : ((Ty.at_ L t0).form == 11) = true := by simpa using h1
    by_cases h2 : (Ty.at_ L b0).form = 11
    · have h21 : ((Ty.at_ L b0).form == 11) = true := by simpa using h2
      by_cases h3 : t0 = b0
      · have h31 : (t0 == b0) = true := by simpa using h3
        have HR := Lib.hid (show ext L t0 b0 = true by unfold ext; rw [if_pos ⟨h1, h2⟩, if_pos h3])
        clear h1 h2 h3
        go_enter Try.func13, Try.ntmps13
        go_wp2_with (first
          | (go_at_call 23; refine (at_any (HH.out.below HBx.out) b0).mono ?_; rintro e w2 ⟨⟨fv2, rfl, hfv2⟩, hb2⟩; have HBy := Lib.hid (HBx.out.trans (hb2.mono HBx.out.size)); clear hb2 hfv2)
          | (go_at_call 23; refine (at_any (HH.out.below HBr.out) t0).mono ?_; rintro e w1 ⟨⟨fv1, rfl, hfv1⟩, hb1⟩; have HBx := Lib.hid (HBr.out.trans (hb1.mono HBr.out.size)); clear hb1 hfv1))
        go_ret
        exact ⟨ret_bool HR.out.symm, HBy.out⟩
      · have h31 : (t0 == b0) = false := by simpa using h3
        have HRES := Lib.hid (show ext L t0 b0 = chain L (L.length + 1) (Ty.at_ L t0).elem (Ty.at_ L b0).elem by unfold ext; rw [if_pos ⟨h1, h2⟩, if_neg h3])
        have i1 := at_form_in (L := L) (t := t0) (by rw [h1]; decide)
        have i2 := at_form_in (L := L) (t := b0) (by rw [h2]; decide)
        obtain ⟨k, rfl⟩ : ∃ k : Nat, t0 = (k : Int) := ⟨t0.toNat, by omega⟩
        obtain ⟨l, rfl⟩ : ∃ l : Nat, b0 = (l : Int) := ⟨b0.toNat, by omega⟩
        have hk : k < L.length := by omega
        have hl : l < L.length := by omega
        obtain ⟨fv, _, _, hr⟩ := HH.out.cells hk
        obtain ⟨fw, _, _, hq⟩ := HH.out.cells hl
        have HR := Lib.hid hr
        have HQ := Lib.hid hq
        clear h1 h2 h3 hr hq i1 i2
        have hk1 : (k : Int) < (L.length : Int) := by omega
        have hl1 : (l : Int) < (L.length : Int) := by omega
        go_enter Try.func13, Try.ntmps13
        go_wp2_with (first
          | (go_at_call 23; refine (at_any (HH.out.below HBx.out) (l : Int)).mono ?_; rintro e w2 ⟨⟨fv2, rfl, hfv2⟩, hb2⟩; have HBy := Lib.hid (HBx.out.trans (hb2.mono HBx.out.size)); clear hb2 hfv2; have c2 : w2.cell? ⟨b, off + k * 7 + 2, none⟩ = some (.int .i64 (Ty.at_ L (k : Nat)).elem) := range_below HR.out HBy.out hb 2 _ rfl; have d2 : w2.cell? ⟨b, off + l * 7 + 2, none⟩ = some (.int .i64 (Ty.at_ L (l : Nat)).elem) := range_below HQ.out HBy.out hb 2 _ rfl)
          | (go_at_call 23; refine (at_any (HH.out.below HBr.out) (k : Int)).mono ?_; rintro e w1 ⟨⟨fv1, rfl, hfv1⟩, hb1⟩; have HBx := Lib.hid (HBr.out.trans (hb1.mono HBr.out.size)); clear hb1 hfv1))
        go_quiet (fail)
        have HBz := Lib.hid (belDrewN HBy.out nq)
        clear c2 d2
        go_wp2_with fail
        go_loopw [1] (fun v wr => ∃ t : Int, v = .int .i64 t ∧ chain L (L.length + 1) t (Ty.at_ L (l : Nat)).elem = chain L (L.length + 1) (Ty.at_ L (k : Nat)).elem (Ty.at_ L (l : Nat)).elem ∧ Below w.heap.size w wr) (fun v _ => (intOf v).toNat)
        case atStart => exact ⟨_, rfl, rfl, HBz.out⟩
        case round =>
          obtain ⟨t, rfl, he, hB⟩ := hrel
          have HE := Lib.hid (he.trans HRES.out.symm)
          have HB := Lib.hid hB
          clear he hB
          by_cases hf : (Ty.at_ L t).form = 10
          · have hf1 : ((Ty.at_ L t).form == 10) = true := by simpa using hf
            by_cases hg : (Ty.at_ L (Ty.at_ L (l : Nat)).elem).form = 10
            · have hg1 : ((Ty.at_ L (Ty.at_ L (l : Nat)).elem).form == 10) = true := by simpa using hg
              by_cases e : t = (Ty.at_ L (l : Nat)).elem
              · have e1 : (t == (Ty.at_ L (l : Nat)).elem) = true := by simpa using e
                have HR := Lib.hid (HE.out.symm.trans (chain_eq hf hg e))
                clear hf hg e
                go_wp2_with (first
                  | (go_at_call 23; refine (at_any (HH.out.below HBu.out) (Ty.at_ L (l : Nat)).elem).mono ?_; rintro e w2 ⟨⟨fv2, rfl, hfv2⟩, hb2⟩; have HBv := Lib.hid (HBu.out.trans (hb2.mono HBu.out.size)); clear hb2 hfv2)
                  | (go_at_call 23; refine (at_any (HH.out.below HB.out) t).mono ?_; rintro e w1 ⟨⟨fv1, rfl, hfv1⟩, hb1⟩; have HBu := Lib.hid (HB.out.trans (hb1.mono HB.out.size)); clear hb1 hfv1))
                go_ret
                exact ⟨ret_bool HR.out.symm, HBv.out⟩
              · have e1 : (t == (Ty.at_ L (l : Nat)).elem) = false := by simpa using e
                have hin := at_rec hf
                obtain ⟨k, rfl⟩ : ∃ k : Nat, t = (k : Int) := ⟨t.toNat, by omega⟩
                have hk : k < L.length := by omega
                have hs := chain_step HG.out hf hg e
                have hbs := HG.out.rec_ _ hf
                obtain ⟨m, hm⟩ : ∃ m : Nat, (Ty.at_ L (k : Nat)).base = (m : Int) := ⟨(Ty.at_ L (k : Nat)).base.toNat, by omega⟩
                have hlt : m < k := by
                  rcases hbs with h0 | h0
                  · have : k ≠ 0 := fun h => by subst h; exact HG.out.h0 hf
                    omega
                  · omega
                rw [hm] at hs
                obtain ⟨fv, _, _, hr⟩ := HH.out.cells hk
                have HR := Lib.hid hr
                have HS := Lib.hid hs
                have HM := Lib.hid hm
                clear hf hg e hs hr hm hbs
                go_wp2_with (first
                  | (go_at_call 23; refine (at_any (HH.out.below HBu.out) (Ty.at_ L (l : Nat)).elem).mono ?_; rintro e w2 ⟨⟨fv2, rfl, hfv2⟩, hb2⟩; have HBv := Lib.hid (HBu.out.trans (hb2.mono HBu.out.size)); clear hb2 hfv2; have c3 : w2.cell? ⟨b, off + k * 7 + 3, none⟩ = some (.int .i64 m) := (range_below HR.out HBv.out hb 3 _ rfl).trans (by rw [HM.out]))
                  | (go_at_call 23; refine (at_any (HH.out.below HB.out) (k : Int)).mono ?_; rintro e w1 ⟨⟨fv1, rfl, hfv1⟩, hb1⟩; have HBu := Lib.hid (HB.out.trans (hb1.mono HB.out.size)); clear hb1 hfv1))
                go_roundw
                case rel => exact ⟨m, rfl, HS.out.symm.trans (HE.out.trans HRES.out), HBv.out⟩
                case measure => simp [intOf]; omega
            · have hg1 : ((Ty.at_ L (Ty.at_ L (l : Nat)).elem).form == 10) = false := by simpa using hg
              have HR := Lib.hid (HE.out.symm.trans (chain_not (t := t) (fun h => hg h.2)))
              clear hf hg
              go_wp2_with (first
                | (go_at_call 23; refine (at_any (HH.out.below HBu.out) (Ty.at_ L (l : Nat)).elem).mono ?_; rintro e w2 ⟨⟨fv2, rfl, hfv2⟩, hb2⟩; have HBv := Lib.hid (HBu.out.trans (hb2.mono HBu.out.size)); clear hb2 hfv2)
                | (go_at_call 23; refine (at_any (HH.out.below HB.out) t).mono ?_; rintro e w1 ⟨⟨fv1, rfl, hfv1⟩, hb1⟩; have HBu := Lib.hid (HB.out.trans (hb1.mono HB.out.size)); clear hb1 hfv1))
              go_ret
              exact ⟨ret_bool HR.out.symm, HBv.out⟩
          · have hf1 : ((Ty.at_ L t).form == 10) = false := by simpa using hf
            have HR := Lib.hid (HE.out.symm.trans (chain_not (b := (Ty.at_ L (l : Nat)).elem) (fun h => hf h.1)))
            clear hf
            go_wp2_with (go_at_call 23; refine (at_any (HH.out.below HB.out) t).mono ?_; rintro e w1 ⟨⟨fv1, rfl, hfv1⟩, hb1⟩; have HBu := Lib.hid (HB.out.trans (hb1.mono HB.out.size)); clear hb1 hfv1)
            go_ret
            exact ⟨ret_bool HR.out.symm, HBu.out⟩
    · have h21 : ((Ty.at_ L b0).form == 11) = false := by simpa using h2
      have HRES := Lib.hid (show ext L t0 b0 = chain L (L.length + 1) t0 b0 by unfold ext; rw [if_neg (fun h => h2 h.2)])
      clear h1 h2
      go_enter Try.func13, Try.ntmps13
      go_wp2_with (first
        | (go_at_call 23; refine (at_any (HH.out.below HBx.out) b0).mono ?_; rintro e w2 ⟨⟨fv2, rfl, hfv2⟩, hb2⟩; have HBy := Lib.hid (HBx.out.trans (hb2.mono HBx.out.size)); clear hb2 hfv2)
        | (go_at_call 23; refine (at_any (HH.out.below HBr.out) t0).mono ?_; rintro e w1 ⟨⟨fv1, rfl, hfv1⟩, hb1⟩; have HBx := Lib.hid (HBr.out.trans (hb1.mono HBr.out.size)); clear hb1 hfv1))
      go_loopw [1] (fun v wr => ∃ t : Int, v = .int .i64 t ∧ chain L (L.length + 1) t b0 = chain L (L.length + 1) t0 b0 ∧ Below w.heap.size w wr) (fun v _ => (intOf v).toNat)
      case atStart => exact ⟨_, rfl, rfl, HBy.out⟩
      case round =>
        obtain ⟨t, rfl, he, hB⟩ := hrel
        have HE := Lib.hid (he.trans HRES.out.symm)
        have HB := Lib.hid hB
        clear he hB
        by_cases hf : (Ty.at_ L t).form = 10
        · have hf1 : ((Ty.at_ L t).form == 10) = true := by simpa using hf
          by_cases hg : (Ty.at_ L b0).form = 10
          · have hg1 : ((Ty.at_ L b0).form == 10) = true := by simpa using hg
            by_cases e : t = b0
            · have e1 : (t == b0) = true := by simpa using e
              have HR := Lib.hid (HE.out.symm.trans (chain_eq hf hg e))
              clear hf hg e
              go_wp2_with (first
                | (go_at_call 23; refine (at_any (HH.out.below HBu.out) b0).mono ?_; rintro e w2 ⟨⟨fv2, rfl, hfv2⟩, hb2⟩; have HBv := Lib.hid (HBu.out.trans (hb2.mono HBu.out.size)); clear hb2 hfv2)
                | (go_at_call 23; refine (at_any (HH.out.below HB.out) t).mono ?_; rintro e w1 ⟨⟨fv1, rfl, hfv1⟩, hb1⟩; have HBu := Lib.hid (HB.out.trans (hb1.mono HB.out.size)); clear hb1 hfv1))
              go_ret
              exact ⟨ret_bool HR.out.symm, HBv.out⟩
            · have e1 : (t == b0) = false := by simpa using e
              have hin := at_rec hf
              obtain ⟨k, rfl⟩ : ∃ k : Nat, t = (k : Int) := ⟨t.toNat, by omega⟩
              have hk : k < L.length := by omega
              have hs := chain_step HG.out hf hg e
              have hbs := HG.out.rec_ _ hf
              obtain ⟨m, hm⟩ : ∃ m : Nat, (Ty.at_ L (k : Nat)).base = (m : Int) := ⟨(Ty.at_ L (k : Nat)).base.toNat, by omega⟩
              have hlt : m < k := by
                rcases hbs with h0 | h0
                · have : k ≠ 0 := fun h => by subst h; exact HG.out.h0 hf
                  omega
                · omega
              rw [hm] at hs
              obtain ⟨fv, _, _, hr⟩ := HH.out.cells hk
              have HR := Lib.hid hr
              have HS := Lib.hid hs
              have HM := Lib.hid hm
              clear hf hg e hs hr hm hbs
              go_wp2_with (first
                | (go_at_call 23; refine (at_any (HH.out.below HBu.out) b0).mono ?_; rintro e w2 ⟨⟨fv2, rfl, hfv2⟩, hb2⟩; have HBv := Lib.hid (HBu.out.trans (hb2.mono HBu.out.size)); clear hb2 hfv2; have c3 : w2.cell? ⟨b, off + k * 7 + 3, none⟩ = some (.int .i64 m) := (range_below HR.out HBv.out hb 3 _ rfl).trans (by rw [HM.out]))
                | (go_at_call 23; refine (at_any (HH.out.below HB.out) (k : Int)).mono ?_; rintro e w1 ⟨⟨fv1, rfl, hfv1⟩, hb1⟩; have HBu := Lib.hid (HB.out.trans (hb1.mono HB.out.size)); clear hb1 hfv1))
              go_roundw
              case rel => exact ⟨m, rfl, HS.out.symm.trans (HE.out.trans HRES.out), HBv.out⟩
              case measure => simp [intOf]; omega
          · have hg1 : ((Ty.at_ L b0).form == 10) = false := by simpa using hg
            have HR := Lib.hid (HE.out.symm.trans (chain_not (t := t) (fun h => hg h.2)))
            clear hf hg
            go_wp2_with (first
              | (go_at_call 23; refine (at_any (HH.out.below HBu.out) b0).mono ?_; rintro e w2 ⟨⟨fv2, rfl, hfv2⟩, hb2⟩; have HBv := Lib.hid (HBu.out.trans (hb2.mono HBu.out.size)); clear hb2 hfv2)
              | (go_at_call 23; refine (at_any (HH.out.below HB.out) t).mono ?_; rintro e w1 ⟨⟨fv1, rfl, hfv1⟩, hb1⟩; have HBu := Lib.hid (HB.out.trans (hb1.mono HB.out.size)); clear hb1 hfv1))
            go_ret
            exact ⟨ret_bool HR.out.symm, HBv.out⟩
        · have hf1 : ((Ty.at_ L t).form == 10) = false := by simpa using hf
          have HR := Lib.hid (HE.out.symm.trans (chain_not (b := b0) (fun h => hf h.1)))
          clear hf
          go_wp2_with (go_at_call 23; refine (at_any (HH.out.below HB.out) t).mono ?_; rintro e w1 ⟨⟨fv1, rfl, hfv1⟩, hb1⟩; have HBu := Lib.hid (HB.out.trans (hb1.mono HB.out.size)); clear hb1 hfv1)
          go_ret
          exact ⟨ret_bool HR.out.symm, HBu.out⟩
  · have h11 : ((Ty.at_ L t0).form == 11) = false := by simpa using h1
    have HRES := Lib.hid (show ext L t0 b0 = chain L (L.length + 1) t0 b0 by unfold ext; rw [if_neg (fun h => h1 h.1)])
    clear h1
    go_enter Try.func13, Try.ntmps13
    go_wp2_with (go_at_call 23; refine (at_any (HH.out.below HBr.out) t0).mono ?_; rintro e w1 ⟨⟨fv1, rfl, hfv1⟩, hb1⟩; have HBx := Lib.hid (HBr.out.trans (hb1.mono HBr.out.size)); clear hb1 hfv1)
    go_loopw [1] (fun v wr => ∃ t : Int, v = .int .i64 t ∧ chain L (L.length + 1) t b0 = chain L (L.length + 1) t0 b0 ∧ Below w.heap.size w wr) (fun v _ => (intOf v).toNat)
    case atStart => exact ⟨_, rfl, rfl, HBx.out⟩
    case round =>
      obtain ⟨t, rfl, he, hB⟩ := hrel
      have HE := Lib.hid (he.trans HRES.out.symm)
      have HB := Lib.hid hB
      clear he hB
      by_cases hf : (Ty.at_ L t).form = 10
      · have hf1 : ((Ty.at_ L t).form == 10) = true := by simpa using hf
        by_cases hg : (Ty.at_ L b0).form = 10
        · have hg1 : ((Ty.at_ L b0).form == 10) = true := by simpa using hg
          by_cases e : t = b0
          · have e1 : (t == b0) = true := by simpa using e
            have HR := Lib.hid (HE.out.symm.trans (chain_eq hf hg e))
            clear hf hg e
            go_wp2_with (first
              | (go_at_call 23; refine (at_any (HH.out.below HBu.out) b0).mono ?_; rintro e w2 ⟨⟨fv2, rfl, hfv2⟩, hb2⟩; have HBv := Lib.hid (HBu.out.trans (hb2.mono HBu.out.size)); clear hb2 hfv2)
              | (go_at_call 23; refine (at_any (HH.out.below HB.out) t).mono ?_; rintro e w1 ⟨⟨fv1, rfl, hfv1⟩, hb1⟩; have HBu := Lib.hid (HB.out.trans (hb1.mono HB.out.size)); clear hb1 hfv1))
            go_ret
            exact ⟨ret_bool HR.out.symm, HBv.out⟩
          · have e1 : (t == b0) = false := by simpa using e
            have hin := at_rec hf
            obtain ⟨k, rfl⟩ : ∃ k : Nat, t = (k : Int) := ⟨t.toNat, by omega⟩
            have hk : k < L.length := by omega
            have hs := chain_step HG.out hf hg e
            have hbs := HG.out.rec_ _ hf
            obtain ⟨m, hm⟩ : ∃ m : Nat, (Ty.at_ L (k : Nat)).base = (m : Int) := ⟨(Ty.at_ L (k : Nat)).base.toNat, by omega⟩
            have hlt : m < k := by
              rcases hbs with h0 | h0
              · have : k ≠ 0 := fun h => by subst h; exact HG.out.h0 hf
                omega
              · omega
            rw [hm] at hs
            obtain ⟨fv, _, _, hr⟩ := HH.out.cells hk
            have HR := Lib.hid hr
            have HS := Lib.hid hs
            have HM := Lib.hid hm
            clear hf hg e hs hr hm hbs
            go_wp2_with (first
              | (go_at_call 23; refine (at_any (HH.out.below HBu.out) b0).mono ?_; rintro e w2 ⟨⟨fv2, rfl, hfv2⟩, hb2⟩; have HBv := Lib.hid (HBu.out.trans (hb2.mono HBu.out.size)); clear hb2 hfv2; have c3 : w2.cell? ⟨b, off + k * 7 + 3, none⟩ = some (.int .i64 m) := (range_below HR.out HBv.out hb 3 _ rfl).trans (by rw [HM.out]))
              | (go_at_call 23; refine (at_any (HH.out.below HB.out) (k : Int)).mono ?_; rintro e w1 ⟨⟨fv1, rfl, hfv1⟩, hb1⟩; have HBu := Lib.hid (HB.out.trans (hb1.mono HB.out.size)); clear hb1 hfv1))
            go_roundw
            case rel => exact ⟨m, rfl, HS.out.symm.trans (HE.out.trans HRES.out), HBv.out⟩
            case measure => simp [intOf]; omega
        · have hg1 : ((Ty.at_ L b0).form == 10) = false := by simpa using hg
          have HR := Lib.hid (HE.out.symm.trans (chain_not (t := t) (fun h => hg h.2)))
          clear hf hg
          go_wp2_with (first
            | (go_at_call 23; refine (at_any (HH.out.below HBu.out) b0).mono ?_; rintro e w2 ⟨⟨fv2, rfl, hfv2⟩, hb2⟩; have HBv := Lib.hid (HBu.out.trans (hb2.mono HBu.out.size)); clear hb2 hfv2)
            | (go_at_call 23; refine (at_any (HH.out.below HB.out) t).mono ?_; rintro e w1 ⟨⟨fv1, rfl, hfv1⟩, hb1⟩; have HBu := Lib.hid (HB.out.trans (hb1.mono HB.out.size)); clear hb1 hfv1))
          go_ret
          exact ⟨ret_bool HR.out.symm, HBv.out⟩
      · have hf1 : ((Ty.at_ L t).form == 10) = false := by simpa using hf
        have HR := Lib.hid (HE.out.symm.trans (chain_not (b := b0) (fun h => hf h.1)))
        clear hf
        go_wp2_with (go_at_call 23; refine (at_any (HH.out.below HB.out) t).mono ?_; rintro e w1 ⟨⟨fv1, rfl, hfv1⟩, hb1⟩; have HBu := Lib.hid (HB.out.trans (hb1.mono HB.out.size)); clear hb1 hfv1)
        go_ret
        exact ⟨ret_bool HR.out.symm, HBu.out⟩
end
end Go.Proofs.Ytmbnpfjimidggaa
