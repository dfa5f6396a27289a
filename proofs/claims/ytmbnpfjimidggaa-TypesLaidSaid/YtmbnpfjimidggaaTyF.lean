/- A record's field. -/
import Derived.Test.YtmbnpfjimidggaaTyE
namespace Go.Proofs.Ytmbnpfjimidggaa
open Go Go.RowKit Go.Lib Go.Proofs.Ytmbnpfjimidggaa.Ty
set_option linter.unusedVariables false
set_option linter.unusedSimpArgs false
attribute [local go_sem ↓] exec_load_type exec_store_type exec_load_field exec_store_field
attribute [local go_sem] tcells fcells
theorem idx_no {F : List Fld} {nm : ByteArray} (h : F.find? (fun f => decide (f.name = nm)) = none) : idxI F nm = -1 := by
  refine idxI_none fun j g _ hj => ?_
  have := List.find?_eq_none.1 h g (List.mem_of_getElem? hj)
  simpa using this
theorem idx_yes {F : List Fld} {nm : ByteArray} {f : Fld} (h : F.find? (fun f => decide (f.name = nm)) = some f) : ∃ k : Nat, F[k]? = some f ∧ idxI F nm = k := by
  obtain ⟨hn, k, hk, e, hno⟩ := List.find?_eq_some_iff_getElem.1 h
  have hf : F[k]? = some f := by rw [List.getElem?_eq_getElem hk, e]
  refine ⟨k, hf, idxI_at hf (by simpa using hn) fun j g hj hg => ?_⟩
  have := hno j hj
  obtain ⟨hj', e'⟩ := List.getElem?_eq_some_iff.1 hg
  rw [e'] at this
  simpa using this
/-- What 'field' answers. -/
def fldV : Option Fld → Value
  | some f => .tuple #[.agg (fcells f), .bool true]
  | none => .tuple #[.agg zField, .bool false]
section
variable {w : World} {A : Option Addr} {cap : Nat} {L : List Typ}
theorem index_is {fv : Value} {F : List Fld} (hF : FldsAt w fv F) (g : Nat) (nm : ByteArray) (t : TypeId) (hg : Blk w g #[.string nm] t) {i : Int} (hi : idxI F nm = i) :
    Calls Try.prog 28 #[fv, .func (.func 29) #[] #[.pointer (some ⟨g, 0, none⟩)]] w fun e w' => e = .returned (.int .i64 i) ∧ Below w.heap.size w w' := by
  subst hi; exact index_any hF g nm t hg
theorem TysAt.cells {b off : Nat} (H : TysAt w (some ⟨b, off, none⟩) cap L) {k : Nat} (hk : k < L.length) : ∃ fv, b < w.heap.size ∧ FldsAt w fv (Ty.at_ L (k : Nat)).fields ∧ w.rangeAt b (off + k * 7) (tcells (Ty.at_ L (k : Nat)) fv).toList := by
  obtain ⟨b', off', fv, e, h1, h2, h3⟩ := H.get hk
  cases e
  exact ⟨fv, h1, h3, h2⟩
theorem hmf_ty (fn : Fn) (first cap : Array Value) (w : World) : (Instr.makeFunc fn first cap).run Try.prog w = .ok (.func fn first cap) w := rfl
set_option maxRecDepth 100000 in
set_option maxHeartbeats 2000000 in
theorem field_any (H : TysAt w A cap L) (hL : 0 < L.length) (G : RowG L) (t0 : Int) (nm : ByteArray) :
    Calls Try.prog 18 #[.slice A L.length cap, .int .i64 t0, .string nm] w fun e w' => e = .returned (fldV (fld L t0 nm)) ∧ Below w.heap.size w w' := by
  obtain ⟨b, off, fv0, rfl, hb, _⟩ := H.get hL
  have hmf := hmf_ty
  have F0 := field_type0
  have k0 := (Blk.new w #[.string nm] 9).old (.cells zField 35)
  have k1 := Blk.new (w.alloc (.cells #[.string nm] 9)) zField 35
  have hB := (((Below.refl w.heap.size w).alloc (Nat.le_refl _) (.cells #[.string nm] 9)).alloc (by simp) (.cells zField 35))
  simp only [World.size_alloc] at k1
  have HH := Lib.hid H
  have HG := Lib.hid G
  have HK0 := Lib.hid k0
  have HK1 := Lib.hid k1
  have HB0 := Lib.hid hB
  clear H G k0 k1 hB
  go_enter Try.func18, Try.ntmps18
  go_wp2_with fail
  go_loopw [1] (fun v wr => ∃ t : Int, v = .int .i64 t ∧ fld L t nm = fld L t0 nm ∧ Blk wr w.heap.size #[.string nm] 9 ∧ Blk wr (w.heap.size + 1) zField 35 ∧ Below w.heap.size w wr) (fun v _ => (intOf v).toNat)
  case atStart => exact ⟨t0, rfl, rfl, HK0.out, HK1.out, HB0.out⟩
  case round =>
    obtain ⟨t, rfl, he, k0, k1, hB⟩ := hrel
    clear HK0 HK1 HB0
    have HE := Lib.hid he
    have HK0 := Lib.hid k0
    have HK1 := Lib.hid k1
    have HB := Lib.hid hB
    clear he k0 k1 hB
    by_cases hf : (Ty.at_ L t).form = 10
    · have ht := at_rec hf
      obtain ⟨k, rfl⟩ : ∃ k : Nat, t = (k : Int) := ⟨t.toNat, by omega⟩
      have hk : k < L.length := by omega
      obtain ⟨fv, _, hfv, hr⟩ := HH.out.cells hk
      have HR := Lib.hid hr
      have HFV := Lib.hid hfv
      have hs := fld_rec HG.out (nm := nm) hf
      rw [HE.out] at hs
      have hf1 : ((Ty.at_ L (k : Nat)).form == 10) = true := by simpa using hf
      clear hr hfv
      cases hfi : (Ty.at_ L (k : Nat)).fields.find? (fun f => decide (f.name = nm)) with
      | none =>
        rw [hfi] at hs
        have HI := Lib.hid (idx_no hfi)
        have hbs := HG.out.rec_ _ hf
        obtain ⟨m, hm⟩ : ∃ m : Nat, (Ty.at_ L (k : Nat)).base = (m : Int) := ⟨(Ty.at_ L (k : Nat)).base.toNat, by omega⟩
        have hlt : m < k := by
          rcases hbs with h0 | h0
          · have : k ≠ 0 := fun h => by subst h; exact HG.out.h0 hf
            omega
          · omega
        have HM := Lib.hid hm
        have HS := Lib.hid hs
        clear hs hfi hbs hm hf
        go_wp2_with (first
          | (go_at_call 23; refine (at_any (HH.out.below HB.out) (k : Int)).mono ?_; rintro e w1 ⟨⟨fv1, rfl, hfv1⟩, hb1⟩
             have HB1 := Lib.hid (HB.out.trans (hb1.mono HB.out.size))
             have KN := Lib.hid (HK0.out.step hb1)
             have KZ := Lib.hid (HK1.out.step hb1)
             have c4 : w1.cell? ⟨b, off + k * 7 + 4, none⟩ = some fv := range_below HR.out HB1.out hb 4 _ rfl
             clear hb1 hfv1)
          | (go_at_call 28; refine (index_is (HFV.out.below HB1.out) w.heap.size nm 9 KN.out HI.out).mono ?_; rintro e w2 ⟨rfl, hb2⟩
             have HB2 := Lib.hid (HB1.out.trans (hb2.mono HB1.out.size))
             have KN2 := Lib.hid (KN.out.step hb2)
             have KZ2 := Lib.hid (KZ.out.step hb2)
             have c3 : w2.cell? ⟨b, off + k * 7 + 3, none⟩ = some (.int .i64 m) := (range_below HR.out HB2.out hb 3 _ rfl).trans (by rw [HM.out])
             clear hb2))
        go_roundw
        case rel => exact ⟨m, rfl, by rw [← HM.out]; exact HS.out.symm, KN2.out, KZ2.out, HB2.out⟩
        case measure => simp [intOf]; omega
      | some f =>
        rw [hfi] at hs
        obtain ⟨i, hi, hidx⟩ := idx_yes hfi
        obtain ⟨A2, cap2, rfl, hc1, hc2, hA⟩ := HFV.out.form
        have hil : i < (Ty.at_ L (k : Nat)).fields.length := (List.getElem?_eq_some_iff.1 hi).1
        rcases hA with hA | ⟨b2, off2, rfl, hb2', hr2⟩
        · rw [hA] at hil; exact absurd hil (by simp)
        · have HR2 := Lib.hid (hr2 i f hi)
          have HI := Lib.hid hidx
          have HS := Lib.hid hs
          clear hs hfi hf hr2 hi hidx
          unfold maxLen at hc2
          go_wp2_with (first
            | (go_at_call 23; refine (at_any (HH.out.below HB.out) (k : Int)).mono ?_; rintro e w1 ⟨⟨fv1, rfl, hfv1⟩, hb1⟩
               have HB1 := Lib.hid (HB.out.trans (hb1.mono HB.out.size))
               have KN := Lib.hid (HK0.out.step hb1)
               have KZ := Lib.hid (HK1.out.step hb1)
               have c4 : w1.cell? ⟨b, off + k * 7 + 4, none⟩ = some _ := range_below HR.out HB1.out hb 4 _ rfl
               clear hb1 hfv1)
            | (go_at_call 28; refine (index_is (HFV.out.below HB1.out) w.heap.size nm 9 KN.out HI.out).mono ?_; rintro e w2 ⟨rfl, hb2⟩
               have HB2 := Lib.hid (HB1.out.trans (hb2.mono HB1.out.size))
               have KZ2 := Lib.hid (KZ.out.step hb2)
               have c4' : w2.cell? ⟨b, off + k * 7 + 4, none⟩ = some _ := range_below HR.out HB2.out hb 4 _ rfl
               have hl := load_field_mid (range_below HR2.out HB2.out hb2') rfl
               have hst := store_field KZ2.out rfl rfl (fcells_one f)
               have hres := loadVar_field (KZ2.out.setRow (fcells f)) rfl
               clear hb2))
          refine bodyPost_ret (v := .tuple #[.agg (fcells f), .bool true]) ?_ rfl ⟨by rw [HS.out]; rfl, belRow HB2.out (by omega) _⟩
          simp [results, Try.results18, asAddr, hres]
    · have hn := fld_not (nm := nm) hf
      rw [HE.out] at hn
      have HN := Lib.hid hn
      have hf1 : ((Ty.at_ L t).form == 10) = false := by simpa using hf
      clear hn hf
      go_wp2_with (go_at_call 23; refine (at_any (HH.out.below HB.out) t).mono ?_; rintro e w1 ⟨⟨fv1, rfl, hfv1⟩, hb1⟩
                   have HB1 := Lib.hid (HB.out.trans (hb1.mono HB.out.size))
                   have KZ := Lib.hid (HK1.out.step hb1)
                   have hst := store_field KZ.out rfl rfl (fcells_one ⟨⟨#[]⟩, 0, 0⟩)
                   have hres := loadVar_field (KZ.out.setRow zField) rfl
                   clear hb1 hfv1)
      refine bodyPost_ret (v := .tuple #[.agg zField, .bool false]) ?_ rfl ⟨by rw [HN.out]; rfl, belRow HB1.out (by omega) _⟩
      simp [results, Try.results18, asAddr, hres]
end
end Go.Proofs.Ytmbnpfjimidggaa
