/- A program lays out an array of three; Extends. -/
import Derived.Test.YtmbnpfjimidggaaTyO
namespace Go.Proofs.Ytmbnpfjimidggaa
open Go Go.RowKit Go.Lib Go.Proofs.Ytmbnpfjimidggaa.Ty
set_option linter.unusedVariables false
set_option linter.unusedSimpArgs false
attribute [local go_sem ↓] exec_load_type exec_store_type exec_load_field exec_store_field
attribute [local go_sem] tcells fcells
section
variable {w : World} {A : Option Addr} {cap : Nat} {L : List Typ}
set_option maxHeartbeats 4000000 in
theorem arr1_yes (H : TysAt w A cap L) (G : RowG L) (p1 p2 : Nat) (n elem : Int) (t1 t2 : TypeId) (k1 : Blk w p1 #[.int .i64 n] t1) (k2 : Blk w p2 #[.int .i64 elem] t2) {T : Typ} (hT : arrayT L n elem = some T) :
    Calls Try.prog 21 #[.slice A L.length cap, .pointer (some ⟨p1, 0, none⟩), .pointer (some ⟨p2, 0, none⟩)] w (Made T w) := by
  have HB0 := Lib.hid ((Below.refl w.heap.size w).alloc (Nat.le_refl _) (.cells zType 27))
  have HZ := Lib.hid (Blk.new w zType 27)
  have c1 : (w.alloc (.cells zType 27)).cell? ⟨p1, 0, none⟩ = some (.int .i64 n) := (k1.old _).cell 0
  have c2 : (w.alloc (.cells zType 27)).cell? ⟨p2, 0, none⟩ = some (.int .i64 elem) := (k2.old _).cell 0
  have HH := Lib.hid H
  have HG := Lib.hid G
  have HT := Lib.hid hT
  clear H G hT k1 k2
  go_enter Try.func21, Try.ntmps21
  go_wp2_with (go_at_call 22; refine (array_yes (HH.out.below HB0.out) HG.out n elem HT.out).mono ?_; rintro e w1 ⟨tv, rfl, htv, hb1, hn1⟩; have HTV := Lib.hid htv; have HN1 := Lib.hid hn1; have HB1 := Lib.hid (HB0.out.trans (hb1.mono HB0.out.size)); have hst := store_type (HZ.out.step hb1) rfl rfl (tcells_one (t := T) htv.one); have hres := loadVar_type ((HZ.out.step hb1).setRow (tcells T tv)) rfl; clear hb1 htv hn1)
  have hz := HZ.out.lt
  refine bodyPost_ret (v := .tuple #[.agg (tcells T tv), .bool true]) ?_ rfl (Made.mk tv (HTV.out.touch (Touch.row _ _ _) (fun g hg => by have := HN1.out g hg; simp at this ⊢; omega)) (belRow HB1.out (Nat.le_refl _) _) (fun g hg => by have := HN1.out g hg; simp at this; omega))
  simp [results, Try.results21, asAddr, hres]
theorem rowP_basic : isRowP basicL := by
  refine ⟨by rw [basicL_len]; omega, by rw [basicL_len]; omega, fun i hi => ?_⟩
  rw [basicL_len] at hi
  exact (step_lt (by rw [basicL_len]; exact hi) hi).2 (basicL_at hi)
set_option maxHeartbeats 4000000 in
theorem addarray_ok (H : TysAt w A cap L) (hR : isRowP L) (hl : L.length < 200) (n elem : Int) {T : Typ} (hT : TOk T) (hs : T.size ≤ 16384) (hA : arrayT L n elem = some T) :
    Calls Try.prog 10 #[.slice A L.length cap, .int .i64 n, .int .i64 elem] w (AddOk L T w) := by
  have hmf := hmf_ty
  have HB0 := Lib.hid (((Below.refl w.heap.size w).alloc (Nat.le_refl _) (.cells #[.int .i64 n] 3)).alloc (by simp) (.cells #[.int .i64 elem] 3))
  have K1 := Lib.hid ((Blk.new w #[.int .i64 n] 3).old (.cells #[.int .i64 elem] 3))
  have k2 := Blk.new (w.alloc (.cells #[.int .i64 n] 3)) #[.int .i64 elem] 3
  simp only [World.size_alloc] at k2
  have K2 := Lib.hid k2
  have HH := Lib.hid H
  have HR := Lib.hid hR
  have HL := Lib.hid hl
  have HA := Lib.hid hA
  have HS := Lib.hid hs
  have HT := Lib.hid hT
  clear H hR hl hA hs hT k2
  go_enter Try.func10, Try.ntmps10
  go_wp2_with (go_at_call 14; refine (add_array_ok (HH.out.below HB0.out) HR.out HL.out HT.out HS.out w.heap.size (w.heap.size + 1) (fun W hW => arr1_yes ((HH.out.below HB0.out).below hW) (rowG_of HR.out) _ _ n elem _ _ (K1.out.step hW) (K2.out.step hW) HA.out)).mono ?_; rintro e w1 ⟨A', cap', rfl, htt, hb1⟩; have HTT := Lib.hid htt; have HB1 := Lib.hid (HB0.out.trans (hb1.mono HB0.out.size)); clear htt hb1)
  go_ret3
  exact ⟨A', cap', rfl, HTT.out, HB1.out⟩
def T3 : Typ := ⟨8, 3, 1, 0, [], 12, 0⟩
theorem t3_is : arrayT basicL 3 1 = some T3 := rfl
set_option maxHeartbeats 4000000 in
theorem tshown_any (w : World) : Calls Try.prog 5 #[] w fun e w' => e = .returned (.bool true) ∧ Below w.heap.size w w' := by
  go_enter Try.func5, Try.ntmps5
  go_wp2_with (first
    | (go_at_call 11; refine basic_any.mono ?_; rintro e w1 ⟨Ab, cb, rfl, hTb, hb1⟩; have HTB := Lib.hid hTb; have HB1 := Lib.hid hb1; clear hTb hb1)
    | (go_at_call 10; refine (addarray_ok HTB.out rowP_basic (by rw [basicL_len]; omega) 3 1 ⟨rfl, rfl, rfl, rfl, rfl, rfl⟩ (by decide) t3_is).mono ?_; rintro e w2 ⟨A', cap', he, htt, hb2⟩; rw [basicL_len] at he; subst he; obtain ⟨b, off, fv, rfl, hb, hr, _⟩ := htt.get (k := 8) (by simp [basicL_len]); have hc2 := htt.cap; have hc3 := htt.max; have c5 : w2.cell? ⟨b, off + 8 * 7 + 5, none⟩ = some (.int .i64 12) := hr 5 _ rfl; have HB2 := Lib.hid (HB1.out.trans (hb2.mono HB1.out.size)); clear hb2 htt hr))
  go_ret
  exact ⟨rfl, HB2.out⟩
end
end Go.Proofs.Ytmbnpfjimidggaa
