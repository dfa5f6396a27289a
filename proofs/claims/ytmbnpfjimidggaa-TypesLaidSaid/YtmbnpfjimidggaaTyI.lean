/- What an array, an open array, a pointer come to. -/
import Derived.Test.YtmbnpfjimidggaaTyH
namespace Go.Proofs.Ytmbnpfjimidggaa
open Go Go.RowKit Go.Lib Go.Proofs.Ytmbnpfjimidggaa.Ty
set_option linter.unusedVariables false
set_option linter.unusedSimpArgs false
attribute [local go_sem ↓] exec_load_type exec_store_type exec_load_field exec_store_field
attribute [local go_sem] tcells fcells
section
variable {w : World} {A : Option Addr} {cap : Nat} {L : List Typ}
/-- A type was made. -/
def Made (T : Typ) (w : World) (e : Ending) (w' : World) : Prop := ∃ fv, e = .returned (.tuple #[.agg (tcells T fv), .bool true]) ∧ FldsAt w' fv T.fields ∧ Below w.heap.size w w' ∧ ∀ g, fv.ownBlock = some g → w.heap.size ≤ g
/-- None was. -/
def MadeNo (w : World) (e : Ending) (w' : World) : Prop := ∃ T fv, e = .returned (.tuple #[.agg (tcells T fv), .bool false]) ∧ fv.oneCell' = true ∧ Below w.heap.size w w'
theorem Made.mk {T : Typ} {w w' : World} (fv : Value) (h : FldsAt w' fv T.fields) (b : Below w.heap.size w w') (n : ∀ g, fv.ownBlock = some g → w.heap.size ≤ g) : Made T w (.returned (.tuple #[.agg (tcells T fv), .bool true])) w' := ⟨fv, rfl, h, b, n⟩
theorem MadeNo.mk {w w' : World} (T : Typ) (fv : Value) (h : fv.oneCell' = true) (b : Below w.heap.size w w') : MadeNo w (.returned (.tuple #[.agg (tcells T fv), .bool false])) w' := ⟨T, fv, rfl, h, b⟩
set_option maxHeartbeats 2000000 in
theorem array_yes (H : TysAt w A cap L) (G : RowG L) (n elem : Int) {T : Typ} (hT : arrayT L n elem = some T) :
    Calls Try.prog 22 #[.slice A L.length cap, .int .i64 n, .int .i64 elem] w (Made T w) := by
  unfold arrayT at hT
  split at hT
  · cases hT
  · rename_i hn
    simp only [Option.some.injEq] at hT
    have ht : thing L elem = true := by
      cases h : thing L elem with
      | true => rfl
      | false => exact absurd (.inr (.inr h)) hn
    have hin := thing_in ht
    obtain ⟨k, rfl⟩ : ∃ k : Nat, elem = (k : Int) := ⟨elem.toNat, by omega⟩
    have hk : k < L.length := by omega
    obtain ⟨b, off, fv0, rfl, hb, hr, _⟩ := H.get hk
    have hz := G.size (k : Nat)
    have n1 : 1 ≤ n := by omega
    have n2 : n ≤ 16384 := by omega
    have m0 : 0 ≤ n * (Ty.at_ L (k : Nat)).size := Int.mul_nonneg (by omega) hz.1
    have m1 : n * (Ty.at_ L (k : Nat)).size ≤ 16384 * 16384 := Int.mul_le_mul n2 hz.2 hz.1 (by decide)
    have HB0 := Lib.hid ((Below.refl w.heap.size w).alloc (Nat.le_refl _) (.cells zType 27))
    have HZ := Lib.hid (Blk.new w zType 27)
    have HH := Lib.hid H
    have HR := Lib.hid hr
    have HT := Lib.hid hT
    have HW := Lib.hid ht
    have z0 := hz.1
    have z1 := hz.2
    clear H hr hT hn ht hz G
    go_enter Try.func22, Try.ntmps22
    go_wp2_with (go_at_call 19; refine (thing_any (HH.out.below HB0.out) (k : Int)).mono ?_; rw [HW.out]; rintro e w1 ⟨rfl, hb1⟩
                 have HB1 := Lib.hid (HB0.out.trans (hb1.mono HB0.out.size))
                 have KZ := Lib.hid (HZ.out.step hb1)
                 have c5 : w1.cell? ⟨b, off + k * 7 + 5, none⟩ = some (.int .i64 (Ty.at_ L (k : Nat)).size) := range_below HR.out HB1.out hb 5 _ rfl
                 have hst := store_type KZ.out rfl rfl (tcells_one (t := ⟨8, n, k, 0, [], n * (Ty.at_ L (k : Nat)).size, 0⟩) (fv := .slice none 0 0) rfl)
                 have hres := loadVar_type (KZ.out.setRow (tcells ⟨8, n, k, 0, [], n * (Ty.at_ L (k : Nat)).size, 0⟩ (.slice none 0 0))) rfl
                 clear hb1)
    obtain rfl := HT.out
    refine bodyPost_ret (v := .tuple #[.agg (tcells ⟨8, n, k, 0, [], n * (Ty.at_ L (k : Nat)).size, 0⟩ (.slice none 0 0)), .bool true]) ?_ rfl (Made.mk (T := ⟨8, n, k, 0, [], n * (Ty.at_ L (k : Nat)).size, 0⟩) _ (FldsAt.none_ _) (belRow HB1.out (Nat.le_refl _) _) (fun g h => by cases h))
    simp [results, Try.results22, asAddr, hres]
set_option maxHeartbeats 2000000 in
theorem array_no (H : TysAt w A cap L) (n elem : Int) (hT : arrayT L n elem = none) :
    Calls Try.prog 22 #[.slice A L.length cap, .int .i64 n, .int .i64 elem] w (MadeNo w) := by
  unfold arrayT at hT
  split at hT
  · rename_i hn
    have HB0 := Lib.hid ((Below.refl w.heap.size w).alloc (Nat.le_refl _) (.cells zType 27))
    have HZ := Lib.hid (Blk.new w zType 27)
    have HH := Lib.hid H
    have hst := store_type_new w zType _ 27 rfl rfl (tcells_one (t := ⟨0, 0, 0, 0, [], 0, 0⟩) (fv := .slice none 0 0) rfl)
    have hres := loadVar_type (Blk.new w zType 27) rfl
    clear H hT
    by_cases h1 : n < 1
    case pos =>
      clear hn
      go_enter Try.func22, Try.ntmps22
      go_wp2_with fail
      refine bodyPost_ret (v := .tuple #[.agg (tcells ⟨0, 0, 0, 0, [], 0, 0⟩ (.slice none 0 0)), .bool false]) ?_ rfl (MadeNo.mk ⟨0, 0, 0, 0, [], 0, 0⟩ _ rfl HB0.out)
      simp [results, Try.results22, asAddr, hres]
    by_cases h2 : 16384 < n
    case pos =>
      clear hn
      go_enter Try.func22, Try.ntmps22
      go_wp2_with fail
      refine bodyPost_ret (v := .tuple #[.agg (tcells ⟨0, 0, 0, 0, [], 0, 0⟩ (.slice none 0 0)), .bool false]) ?_ rfl (MadeNo.mk ⟨0, 0, 0, 0, [], 0, 0⟩ _ rfl HB0.out)
      simp [results, Try.results22, asAddr, hres]
    have HW : Hid (thing L elem = false) := Lib.hid (by
      rcases hn with hn | hn | hn
      · exact absurd hn h1
      · exact absurd hn h2
      · exact hn)
    clear hn hst hres
    go_enter Try.func22, Try.ntmps22
    go_wp2_with (go_at_call 19; refine (thing_any (HH.out.below HB0.out) elem).mono ?_; rw [HW.out]; rintro e w1 ⟨rfl, hb1⟩
                 have HB1 := Lib.hid (HB0.out.trans (hb1.mono HB0.out.size))
                 have KZ := Lib.hid (HZ.out.step hb1)
                 have hst := store_type KZ.out rfl rfl (tcells_one (t := ⟨0, 0, 0, 0, [], 0, 0⟩) (fv := .slice none 0 0) rfl)
                 have hres := loadVar_type (KZ.out.setRow zType) rfl
                 clear hb1)
    refine bodyPost_ret (v := .tuple #[.agg (tcells ⟨0, 0, 0, 0, [], 0, 0⟩ (.slice none 0 0)), .bool false]) ?_ rfl (MadeNo.mk ⟨0, 0, 0, 0, [], 0, 0⟩ _ rfl (belRow HB1.out (Nat.le_refl _) _))
    simp [results, Try.results22, asAddr, hres]
  · cases hT
set_option maxHeartbeats 2000000 in
theorem open_any (H : TysAt w A cap L) (elem : Int) :
    Calls Try.prog 26 #[.slice A L.length cap, .int .i64 elem] w fun e w' => e = .returned (.tuple #[.agg (tcells ⟨9, 0, elem, 0, [], 0, 0⟩ (.slice none 0 0)), .bool (thing L elem)]) ∧ Below w.heap.size w w' := by
  have HB0 := Lib.hid ((Below.refl w.heap.size w).alloc (Nat.le_refl _) (.cells zType 27))
  have HZ := Lib.hid (Blk.new w zType 27)
  have HH := Lib.hid H
  clear H
  go_enter Try.func26, Try.ntmps26
  go_wp2_with (go_at_call 19; refine (thing_any (HH.out.below HB0.out) elem).mono ?_; rintro e w1 ⟨rfl, hb1⟩
               have HB1 := Lib.hid (HB0.out.trans (hb1.mono HB0.out.size))
               have KZ := Lib.hid (HZ.out.step hb1)
               have hst := store_type KZ.out rfl rfl (tcells_one (t := ⟨9, 0, elem, 0, [], 0, 0⟩) (fv := .slice none 0 0) rfl)
               have hres := loadVar_type (KZ.out.setRow (tcells ⟨9, 0, elem, 0, [], 0, 0⟩ (.slice none 0 0))) rfl
               clear hb1)
  refine bodyPost_ret (v := .tuple #[.agg (tcells ⟨9, 0, elem, 0, [], 0, 0⟩ (.slice none 0 0)), .bool (thing L elem)]) ?_ rfl ⟨rfl, belRow HB1.out (Nat.le_refl _) _⟩
  simp [results, Try.results26, asAddr, hres]
theorem open_yes (H : TysAt w A cap L) (elem : Int) {T : Typ} (hT : openT L elem = some T) : Calls Try.prog 26 #[.slice A L.length cap, .int .i64 elem] w (Made T w) := by
  unfold openT at hT
  split at hT
  · rename_i h
    simp only [Option.some.injEq] at hT
    refine (open_any H elem).mono ?_
    rintro e w' ⟨rfl, hb⟩
    rw [h, ← hT]
    exact Made.mk (T := ⟨9, 0, elem, 0, [], 0, 0⟩) _ (FldsAt.none_ _) hb (fun g h => by cases h)
  · cases hT
theorem open_no (H : TysAt w A cap L) (elem : Int) (hT : openT L elem = none) : Calls Try.prog 26 #[.slice A L.length cap, .int .i64 elem] w (MadeNo w) := by
  unfold openT at hT
  split at hT
  · cases hT
  · rename_i h
    refine (open_any H elem).mono ?_
    rintro e w' ⟨rfl, hb⟩
    rw [Bool.eq_false_iff.2 h]
    exact MadeNo.mk _ _ rfl hb
set_option maxHeartbeats 2000000 in
theorem pointer_any (H : TysAt w A cap L) (r : Int) :
    Calls Try.prog 27 #[.slice A L.length cap, .int .i64 r] w fun e w' => e = .returned (.tuple #[.agg (tcells ⟨11, 0, r, 0, [], 4, 0⟩ (.slice none 0 0)), .bool (decide (r = 0) || decide ((Ty.at_ L r).form = 10))]) ∧ Below w.heap.size w w' := by
  have HB0 := Lib.hid ((Below.refl w.heap.size w).alloc (Nat.le_refl _) (.cells zType 27))
  have HZ := Lib.hid (Blk.new w zType 27)
  have HH := Lib.hid H
  have F0 := field_type0
  clear H
  by_cases h0 : r = 0
  · subst h0
    have hst := store_type_new w zType _ 27 rfl rfl (tcells_one (t := ⟨11, 0, 0, 0, [], 4, 0⟩) (fv := .slice none 0 0) rfl)
    have hres := loadVar_type (Blk.new w (tcells ⟨11, 0, 0, 0, [], 4, 0⟩ (.slice none 0 0)) 27) rfl
    have HB2 := Lib.hid ((Below.refl w.heap.size w).alloc (Nat.le_refl _) (.cells (tcells ⟨11, 0, 0, 0, [], 4, 0⟩ (.slice none 0 0)) 27))
    go_enter Try.func27, Try.ntmps27
    go_wp2_with fail
    refine bodyPost_ret (v := .tuple #[.agg (tcells ⟨11, 0, 0, 0, [], 4, 0⟩ (.slice none 0 0)), .bool true]) ?_ rfl ⟨by simp, HB2.out⟩
    simp [results, Try.results27, asAddr, hres]
  · have h1 : (r == 0) = false := by simpa using h0
    have h2 : decide (r = 0) = false := by simpa using h0
    by_cases hf : (Ty.at_ L r).form = 10
    · have hf1 : ((Ty.at_ L r).form == 10) = true := by simpa using hf
      have HF := Lib.hid hf
      clear hf h0
      go_enter Try.func27, Try.ntmps27
      go_wp2_with (go_at_call 23; refine (at_any (HH.out.below HB0.out) r).mono ?_; rintro e w1 ⟨⟨fv, rfl, hfv⟩, hb1⟩
                   have HB1 := Lib.hid (HB0.out.trans (hb1.mono HB0.out.size))
                   have KZ := Lib.hid (HZ.out.step hb1)
                   have hst := store_type KZ.out rfl rfl (tcells_one (t := ⟨11, 0, r, 0, [], 4, 0⟩) (fv := .slice none 0 0) rfl)
                   have hres := loadVar_type (KZ.out.setRow (tcells ⟨11, 0, r, 0, [], 4, 0⟩ (.slice none 0 0))) rfl
                   clear hb1 hfv)
      refine bodyPost_ret (v := .tuple #[.agg (tcells ⟨11, 0, r, 0, [], 4, 0⟩ (.slice none 0 0)), .bool true]) ?_ rfl ⟨by rw [h2]; simp [HF.out], belRow HB1.out (Nat.le_refl _) _⟩
      simp [results, Try.results27, asAddr, hres]
    · have hf1 : ((Ty.at_ L r).form == 10) = false := by simpa using hf
      have HF := Lib.hid hf
      clear hf h0
      go_enter Try.func27, Try.ntmps27
      go_wp2_with (go_at_call 23; refine (at_any (HH.out.below HB0.out) r).mono ?_; rintro e w1 ⟨⟨fv, rfl, hfv⟩, hb1⟩
                   have HB1 := Lib.hid (HB0.out.trans (hb1.mono HB0.out.size))
                   have KZ := Lib.hid (HZ.out.step hb1)
                   have hst := store_type KZ.out rfl rfl (tcells_one (t := ⟨11, 0, r, 0, [], 4, 0⟩) (fv := .slice none 0 0) rfl)
                   have hres := loadVar_type (KZ.out.setRow (tcells ⟨11, 0, r, 0, [], 4, 0⟩ (.slice none 0 0))) rfl
                   clear hb1 hfv)
      refine bodyPost_ret (v := .tuple #[.agg (tcells ⟨11, 0, r, 0, [], 4, 0⟩ (.slice none 0 0)), .bool false]) ?_ rfl ⟨by rw [h2]; simp [HF.out], belRow HB1.out (Nat.le_refl _) _⟩
      simp [results, Try.results27, asAddr, hres]
theorem pointer_yes (H : TysAt w A cap L) (r : Int) {T : Typ} (hT : pointerT L r = some T) : Calls Try.prog 27 #[.slice A L.length cap, .int .i64 r] w (Made T w) := by
  unfold pointerT at hT
  split at hT
  · rename_i h
    simp only [Option.some.injEq] at hT
    refine (pointer_any H r).mono ?_
    rintro e w' ⟨rfl, hb⟩
    have : (decide (r = 0) || decide ((Ty.at_ L r).form = 10)) = true := by simpa using h
    rw [this, ← hT]
    exact Made.mk (T := ⟨11, 0, r, 0, [], 4, 0⟩) _ (FldsAt.none_ _) hb (fun g h => by cases h)
  · cases hT
theorem pointer_no (H : TysAt w A cap L) (r : Int) (hT : pointerT L r = none) : Calls Try.prog 27 #[.slice A L.length cap, .int .i64 r] w (MadeNo w) := by
  unfold pointerT at hT
  split at hT
  · cases hT
  · rename_i h
    refine (pointer_any H r).mono ?_
    rintro e w' ⟨rfl, hb⟩
    have : (decide (r = 0) || decide ((Ty.at_ L r).form = 10)) = false := by rw [← Bool.not_eq_true]; simpa using h
    rw [this]
    exact MadeNo.mk _ _ rfl hb
end
end Go.Proofs.Ytmbnpfjimidggaa
