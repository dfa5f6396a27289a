/- The law TypesOrder. -/
import Derived.Test.YtmbnpfjimidggaaTyP
import Derived.Test.YtmbnpfjimidggaaGen
namespace Go.Proofs.Ytmbnpfjimidggaa
open Go Go.RowKit Go.Lib Go.Proofs.Ytmbnpfjimidggaa.Ty
set_option linter.unusedVariables false
set_option linter.unusedSimpArgs false
attribute [local go_sem ↓] exec_load_type exec_store_type exec_load_field exec_store_field
attribute [local go_sem] tcells fcells
section
variable {w : World} {A : Option Addr} {cap : Nat} {L : List Typ}
/-- What Extends answers. -/
def ExtV (L : List Typ) (a b : Int) : Prop := 0 ≤ a ∧ a < L.length ∧ 0 ≤ b ∧ b < L.length ∧ isRowP L ∧ ext L a b = true
set_option maxHeartbeats 4000000 in
theorem asks_ext (H : TysAt w A cap L) (a b : Int) (ha : (Lit.int .i64 a).wf = true) (hb : (Lit.int .i64 b).wf = true) {c : Bool} (hc : c = true ↔ ExtV L a b) :
    Calls Try.prog 12 #[.slice A L.length cap, .int .i64 a, .int .i64 b, .func (.func 13) #[] #[]] w fun e w' => e = .returned (.bool c) ∧ Below w.heap.size w w' := by
  have wa := wf_bd ha
  have wb := wf_bd hb
  have HH := Lib.hid H
  have HC := Lib.hid hc
  clear H hc ha hb
  by_cases h1 : 0 ≤ a
  case neg =>
    have h11 : a < 0 := by omega
    obtain rfl := no_of (c := c) (P := ExtV L a b) (fun h => h1 h.1) HC.out.1
    clear h1
    go_enter Try.func12, Try.ntmps12
    go_wp2_with fail
    go_ret
    exact ⟨rfl, Below.refl _ _⟩
  by_cases h2 : a < (L.length : Int)
  case neg =>
    have h21 : (L.length : Int) ≤ a := by omega
    obtain rfl := no_of (c := c) (P := ExtV L a b) (fun h => h2 h.2.1) HC.out.1
    clear h2
    go_enter Try.func12, Try.ntmps12
    go_wp2_with fail
    go_ret
    exact ⟨rfl, Below.refl _ _⟩
  by_cases h3 : 0 ≤ b
  case neg =>
    have h31 : b < 0 := by omega
    obtain rfl := no_of (c := c) (P := ExtV L a b) (fun h => h3 h.2.2.1) HC.out.1
    clear h3
    go_enter Try.func12, Try.ntmps12
    go_wp2_with fail
    go_ret
    exact ⟨rfl, Below.refl _ _⟩
  by_cases h4 : b < (L.length : Int)
  case neg =>
    have h41 : (L.length : Int) ≤ b := by omega
    obtain rfl := no_of (c := c) (P := ExtV L a b) (fun h => h4 h.2.2.2.1) HC.out.1
    clear h4
    go_enter Try.func12, Try.ntmps12
    go_wp2_with fail
    go_ret
    exact ⟨rfl, Below.refl _ _⟩
  by_cases h5 : isRowP L
  case neg =>
    obtain rfl := no_of (c := c) (P := ExtV L a b) (fun h => h5 h.2.2.2.2.1) HC.out.1
    have H5 := Lib.hid h5
    clear h5
    go_enter Try.func12, Try.ntmps12
    go_wp2_with (go_at_call 17; refine (isrow_any HH.out (c := false) ⟨(fun h => by cases h), fun h => absurd h H5.out⟩).mono ?_; rintro e w1 ⟨rfl, hb1⟩)
    go_ret
    exact ⟨rfl, hb1⟩
  have H5 := Lib.hid h5
  have hL : 0 < L.length := by have := h5.1; omega
  have HE := Lib.hid (show ext L a b = c by
    rw [Bool.eq_iff_iff, HC.out]
    constructor
    · intro h; exact ⟨h1, h2, h3, h4, h5, h⟩
    · intro h; exact h.2.2.2.2.2)
  clear h5
  go_enter Try.func12, Try.ntmps12
  go_wp2_with (first
    | (go_at_call 17; refine (isrow_any HH.out (c := true) ⟨fun _ => H5.out, fun _ => rfl⟩).mono ?_; rintro e w1 ⟨rfl, hb1⟩; have HB1 := Lib.hid hb1; clear hb1)
    | (go_at_call 13; refine (extends_any (HH.out.below HB1.out) hL (rowG_of H5.out) a b).mono ?_; rw [HE.out]; rintro e w2 ⟨rfl, hb2⟩; have HB2 := Lib.hid (HB1.out.trans (hb2.mono HB1.out.size)); clear hb2))
  go_ret
  exact ⟨rfl, HB2.out⟩
theorem extends_ext (H : TysAt w A cap L) (a b : Int) (ha : (Lit.int .i64 a).wf = true) (hb : (Lit.int .i64 b).wf = true) {c : Bool} (hc : c = true ↔ ExtV L a b) :
    Calls Try.prog 6 #[.slice A L.length cap, .int .i64 a, .int .i64 b] w fun e w' => e = .returned (.bool c) ∧ Below w.heap.size w w' := by
  have HH := Lib.hid H
  have HC := Lib.hid hc
  clear H hc
  go_enter Try.func6, Try.ntmps6
  go_wp2_with (go_at_call 12; refine (asks_ext HH.out a b ha hb HC.out).mono ?_; rintro e w1 ⟨rfl, hb1⟩)
  go_ret
  exact ⟨rfl, hb1⟩
structure IsB (c : Bool) (p : Prop) : Prop where
  iff : c = true ↔ p
theorem boolOf (p : Prop) : ∃ c : Bool, IsB c p := by
  by_cases h : p
  · exact ⟨true, ⟨fun _ => h, fun _ => rfl⟩⟩
  · exact ⟨false, ⟨(fun g => by cases g), fun g => absurd g h⟩⟩
set_option maxHeartbeats 8000000 in
theorem order_any (H : TysAt w A cap L) (a b d : Int) (ha : (Lit.int .i64 a).wf = true) (hb : (Lit.int .i64 b).wf = true) (hd : (Lit.int .i64 d).wf = true) :
    Calls Try.prog 3 #[.slice A L.length cap, .int .i64 a, .int .i64 b, .int .i64 d] w fun e w' => e = .returned (.bool true) ∧ Below w.heap.size w w' := by
  obtain ⟨ab, hab⟩ := boolOf (ExtV L a b)
  obtain ⟨ba, hba⟩ := boolOf (ExtV L b a)
  obtain ⟨bc, hbc⟩ := boolOf (ExtV L b d)
  obtain ⟨ac, hac⟩ := boolOf (ExtV L a d)
  have htr : ab = true → bc = true → ac = true := fun h1 h2 => by
    have x := hab.iff.1 h1
    have y := hbc.iff.1 h2
    have G := rowG_of x.2.2.2.2.1
    exact hac.iff.2 ⟨x.1, x.2.1, y.2.2.1, y.2.2.2.1, x.2.2.2.2.1, ext_trans G.ahead G.h0 a b d x.2.2.2.2.2 y.2.2.2.2.2⟩
  have han : ab = true → ba = true → (Ty.at_ L a).form = 10 → a = b := fun h1 h2 h3 => by
    have x := hab.iff.1 h1
    have y := hba.iff.1 h2
    have G := rowG_of x.2.2.2.2.1
    exact ext_anti G.ahead G.h0 a b x.2.2.2.2.2 y.2.2.2.2.2 h3
  have hin : ab = true → 0 ≤ a ∧ a < L.length := fun h1 => ⟨(hab.iff.1 h1).1, (hab.iff.1 h1).2.1⟩
  have HAB := Lib.hid hab
  have HBA := Lib.hid hba
  have HBC := Lib.hid hbc
  have HAC := Lib.hid hac
  have HH := Lib.hid H
  clear hab hba hbc hac H
  cases ab with
  | false =>
    clear htr han hin
    cases ba <;> cases bc <;> cases ac
    all_goals
      go_enter Try.func3, Try.ntmps3
      go_upto_region 2 with (go_at_call 5; refine (tshown_any _).mono ?_; rintro e w1 ⟨rfl, hb1⟩; have HB1 := Lib.hid hb1; clear hb1)
      go_upto_region 3 with (go_at_call 6; refine (extends_ext (HH.out.below HB1.out) a b ha hb HAB.out.iff).mono ?_; rintro e w2 ⟨rfl, hb1⟩; have HB2 := Lib.hid (HB1.out.trans (hb1.mono HB1.out.size)); clear hb1)
      go_upto_region 4 with (go_at_call 6; refine (extends_ext (HH.out.below HB2.out) b a hb ha HBA.out.iff).mono ?_; rintro e w3 ⟨rfl, hb1⟩; have HB3 := Lib.hid (HB2.out.trans (hb1.mono HB2.out.size)); clear hb1)
      go_upto_region 5 with (go_at_call 6; refine (extends_ext (HH.out.below HB3.out) b d hb hd HBC.out.iff).mono ?_; rintro e w4 ⟨rfl, hb1⟩; have HB4 := Lib.hid (HB3.out.trans (hb1.mono HB3.out.size)); clear hb1)
      go_upto_region 6 with (go_at_call 6; refine (extends_ext (HH.out.below HB4.out) a d ha hd HAC.out.iff).mono ?_; rintro e w5 ⟨rfl, hb1⟩; have HB5 := Lib.hid (HB4.out.trans (hb1.mono HB4.out.size)); clear hb1)
      go_wp2_with fail
      go_ret
      exact ⟨rfl, HB5.out⟩
  | true =>
    cases ba with
    | false =>
      clear han hin
      cases bc <;> cases ac
      case true.false => exact absurd (htr rfl rfl) (by decide)
      all_goals
        go_enter Try.func3, Try.ntmps3
        go_upto_region 2 with (go_at_call 5; refine (tshown_any _).mono ?_; rintro e w1 ⟨rfl, hb1⟩; have HB1 := Lib.hid hb1; clear hb1)
        go_upto_region 3 with (go_at_call 6; refine (extends_ext (HH.out.below HB1.out) a b ha hb HAB.out.iff).mono ?_; rintro e w2 ⟨rfl, hb1⟩; have HB2 := Lib.hid (HB1.out.trans (hb1.mono HB1.out.size)); clear hb1)
        go_upto_region 4 with (go_at_call 6; refine (extends_ext (HH.out.below HB2.out) b a hb ha HBA.out.iff).mono ?_; rintro e w3 ⟨rfl, hb1⟩; have HB3 := Lib.hid (HB2.out.trans (hb1.mono HB2.out.size)); clear hb1)
        go_upto_region 5 with (go_at_call 6; refine (extends_ext (HH.out.below HB3.out) b d hb hd HBC.out.iff).mono ?_; rintro e w4 ⟨rfl, hb1⟩; have HB4 := Lib.hid (HB3.out.trans (hb1.mono HB3.out.size)); clear hb1)
        go_upto_region 6 with (go_at_call 6; refine (extends_ext (HH.out.below HB4.out) a d ha hd HAC.out.iff).mono ?_; rintro e w5 ⟨rfl, hb1⟩; have HB5 := Lib.hid (HB4.out.trans (hb1.mono HB4.out.size)); clear hb1)
        go_wp2_with fail
        go_ret
        exact ⟨rfl, HB5.out⟩
    | true =>
      obtain ⟨i0, i1⟩ := hin rfl
      obtain ⟨k, rfl⟩ : ∃ k : Nat, a = (k : Int) := ⟨a.toNat, by omega⟩
      have hk : k < L.length := by omega
      obtain ⟨b0, off, fv, rfl, hb0, hr, _⟩ := HH.out.get hk
      have HR := Lib.hid hr
      have HAN := Lib.hid (han rfl rfl)
      clear hr hin han
      by_cases hf : (Ty.at_ L (k : Nat)).form = 10
      · obtain rfl := HAN.out hf
        have hf1 : ((Ty.at_ L (k : Nat)).form == 10) = true := by simpa using hf
        clear hf
        cases bc <;> cases ac
        case true.false => exact absurd (htr rfl rfl) (by decide)
        all_goals
          go_enter Try.func3, Try.ntmps3
          go_upto_region 2 with (go_at_call 5; refine (tshown_any _).mono ?_; rintro e w1 ⟨rfl, hb1⟩; have HB1 := Lib.hid hb1; clear hb1)
          go_upto_region 3 with (go_at_call 6; refine (extends_ext (HH.out.below HB1.out) (k : Int) (k : Int) ha ha HAB.out.iff).mono ?_; rintro e w2 ⟨rfl, hb1⟩; have HB2 := Lib.hid (HB1.out.trans (hb1.mono HB1.out.size)); clear hb1)
          go_upto_region 4 with (go_at_call 6; refine (extends_ext (HH.out.below HB2.out) (k : Int) (k : Int) ha ha HBA.out.iff).mono ?_; rintro e w3 ⟨rfl, hb1⟩; have HB3 := Lib.hid (HB2.out.trans (hb1.mono HB2.out.size)); clear hb1)
          go_upto_region 5 with (go_at_call 6; refine (extends_ext (HH.out.below HB3.out) (k : Int) d ha hd HBC.out.iff).mono ?_; rintro e w4 ⟨rfl, hb1⟩; have HB4 := Lib.hid (HB3.out.trans (hb1.mono HB3.out.size)); clear hb1)
          go_upto_region 6 with (go_at_call 6; refine (extends_ext (HH.out.below HB4.out) (k : Int) d ha hd HAC.out.iff).mono ?_; rintro e w5 ⟨rfl, hb1⟩; have HB5 := Lib.hid (HB4.out.trans (hb1.mono HB4.out.size)); clear hb1)
          have c0 : w5.cell? ⟨b0, off + k * 7, none⟩ = some (.int .i64 (Ty.at_ L (k : Nat)).form) := range_below HR.out HB5.out hb0 0 _ rfl
          go_wp2_with fail
          go_ret
          exact ⟨rfl, HB5.out⟩
      · have hf1 : ((Ty.at_ L (k : Nat)).form == 10) = false := by simpa using hf
        clear hf
        cases bc <;> cases ac
        case true.false => exact absurd (htr rfl rfl) (by decide)
        all_goals
          go_enter Try.func3, Try.ntmps3
          go_upto_region 2 with (go_at_call 5; refine (tshown_any _).mono ?_; rintro e w1 ⟨rfl, hb1⟩; have HB1 := Lib.hid hb1; clear hb1)
          go_upto_region 3 with (go_at_call 6; refine (extends_ext (HH.out.below HB1.out) (k : Int) b ha hb HAB.out.iff).mono ?_; rintro e w2 ⟨rfl, hb1⟩; have HB2 := Lib.hid (HB1.out.trans (hb1.mono HB1.out.size)); clear hb1)
          go_upto_region 4 with (go_at_call 6; refine (extends_ext (HH.out.below HB2.out) b (k : Int) hb ha HBA.out.iff).mono ?_; rintro e w3 ⟨rfl, hb1⟩; have HB3 := Lib.hid (HB2.out.trans (hb1.mono HB2.out.size)); clear hb1)
          go_upto_region 5 with (go_at_call 6; refine (extends_ext (HH.out.below HB3.out) b d hb hd HBC.out.iff).mono ?_; rintro e w4 ⟨rfl, hb1⟩; have HB4 := Lib.hid (HB3.out.trans (hb1.mono HB3.out.size)); clear hb1)
          go_upto_region 6 with (go_at_call 6; refine (extends_ext (HH.out.below HB4.out) (k : Int) d ha hd HAC.out.iff).mono ?_; rintro e w5 ⟨rfl, hb1⟩; have HB5 := Lib.hid (HB4.out.trans (hb1.mono HB4.out.size)); clear hb1)
          have c0 : w5.cell? ⟨b0, off + k * 7, none⟩ = some (.int .i64 (Ty.at_ L (k : Nat)).form) := range_below HR.out HB5.out hb0 0 _ rfl
          go_wp2_with fail
          go_ret
          exact ⟨rfl, HB5.out⟩
end
/-! What came in reads as types. -/
def strOf : Value → ByteArray | .string s => s | _ => ⟨#[]⟩
theorem good_flds {w : World} {v : Value} {bs : Nat} (h : Gen.Good w (.slice bs [.str, .int .i64, .int .i64]) v) : ∃ F, FldsAt w v F := by
  obtain ⟨A, len, cap, V, rfl, hl, hm, hb, hr⟩ := h.slice_inv
  have h0 : ∀ i, i < cap → ∃ s, V i 0 = .string s ∧ s.size ≤ reachBytes := fun i hi => (hr.2 i 0 _ hi rfl).str_inv
  have h1 : ∀ i, i < cap → ∃ n, V i 1 = .int .i64 n ∧ (Lit.int .i64 n).wf = true := fun i hi => (hr.2 i 1 _ hi rfl).int_inv
  have h2 : ∀ i, i < cap → ∃ n, V i 2 = .int .i64 n ∧ (Lit.int .i64 n).wf = true := fun i hi => (hr.2 i 2 _ hi rfl).int_inv
  refine ⟨(List.range len).map fun i => ⟨strOf (V i 0), intOf (V i 1), intOf (V i 2)⟩, A, cap, by simp, by simpa using hl, hm, fun f hf => ?_, fun k f hf => ?_⟩
  · obtain ⟨i, hi, rfl⟩ := List.mem_map.1 hf
    have hi := List.mem_range.1 hi
    obtain ⟨s, e0, g0⟩ := h0 i (by omega)
    obtain ⟨n, e1, g1⟩ := h1 i (by omega)
    obtain ⟨m, e2, g2⟩ := h2 i (by omega)
    refine ⟨?_, ?_, ?_⟩
    · rw [e0]; exact Nat.le_trans g0 (by unfold reachBytes maxLen; omega)
    · rw [e1]; exact g1
    · rw [e2]; exact g2
  · rw [List.getElem?_map, Option.map_eq_some_iff] at hf
    obtain ⟨i, hi, rfl⟩ := hf
    have hil : i < len ∧ i = k := by
      have := List.getElem?_eq_some_iff.1 hi
      obtain ⟨a, b⟩ := this
      simp at a b; omega
    obtain ⟨hil, rfl⟩ := hil
    obtain ⟨b, off, rfl, hlt, hc⟩ := hr.1 (by omega) (by simp)
    refine ⟨b, off, rfl, hlt, fun j u hu => ?_⟩
    obtain ⟨s, e0, _⟩ := h0 i (by omega)
    obtain ⟨n, e1, _⟩ := h1 i (by omega)
    obtain ⟨m, e2, _⟩ := h2 i (by omega)
    have hj : j < 3 := (List.getElem?_eq_some_iff.1 hu).1
    have := hc i j (by omega) (by simpa using hj)
    rw [Nat.add_assoc]
    rw [show [Gen.CT.str, .int .i64, .int .i64].length = 3 from rfl] at this
    rw [this]
    match j, hj with
    | 0, _ => rw [e0] at hu ⊢; exact hu
    | 1, _ => rw [e1] at hu ⊢; exact hu
    | 2, _ => rw [e2] at hu ⊢; exact hu
theorem list_of {α : Type} {P : Nat → α → Prop} : ∀ n, (∀ i, i < n → ∃ a, P i a) → ∃ L : List α, L.length = n ∧ ∀ i a, L[i]? = some a → P i a
  | 0, _ => ⟨[], rfl, fun i a h => by simp at h⟩
  | n + 1, h => by
    obtain ⟨L, hl, hL⟩ := list_of n (fun i hi => h i (by omega))
    obtain ⟨a, ha⟩ := h n (by omega)
    refine ⟨L ++ [a], by rw [List.length_append, hl]; rfl, fun i x hx => ?_⟩
    by_cases e : i < n
    · rw [List.getElem?_append_left (by omega)] at hx; exact hL i x hx
    · have hi : i < (L ++ [a]).length := (List.getElem?_eq_some_iff.1 hx).1
      rw [List.length_append, hl] at hi
      simp at hi
      obtain rfl : i = n := by omega
      rw [List.getElem?_append_right (by omega), hl] at hx
      simp at hx
      rw [← hx]; exact ha
theorem good_tys {w : World} {v : Value} {bs bf : Nat} (h : Gen.Good w (.slice bs [.int .i64, .int .i64, .int .i64, .int .i64, .slice bf [.str, .int .i64, .int .i64], .int .i64, .int .i64]) v) : ∃ A cap L, v = .slice A L.length cap ∧ TysAt w A cap L := by
  obtain ⟨A, len, cap, V, rfl, hl, hm, hb, hr⟩ := h.slice_inv
  have key : ∀ i, i < len → ∃ t : Typ, TOk t ∧ ∃ b off fv, A = some ⟨b, off, none⟩ ∧ b < w.heap.size ∧ w.rangeAt b (off + i * 7) (tcells t fv).toList ∧ FldsAt w fv t.fields := fun i hi => by
    obtain ⟨n0, e0, g0⟩ := (hr.2 i 0 _ (by omega) rfl).int_inv
    obtain ⟨n1, e1, g1⟩ := (hr.2 i 1 _ (by omega) rfl).int_inv
    obtain ⟨n2, e2, g2⟩ := (hr.2 i 2 _ (by omega) rfl).int_inv
    obtain ⟨n3, e3, g3⟩ := (hr.2 i 3 _ (by omega) rfl).int_inv
    obtain ⟨F, hF⟩ := good_flds (hr.2 i 4 _ (by omega) rfl)
    obtain ⟨n5, e5, g5⟩ := (hr.2 i 5 _ (by omega) rfl).int_inv
    obtain ⟨n6, e6, g6⟩ := (hr.2 i 6 _ (by omega) rfl).int_inv
    obtain ⟨b, off, rfl, hlt, hc⟩ := hr.1 (by omega) (by simp)
    refine ⟨⟨n0, n1, n2, n3, F, n5, n6⟩, ⟨g0, g1, g2, g3, g5, g6⟩, b, off, V i 4, rfl, hlt, fun j u hu => ?_, hF⟩
    have hj : j < 7 := (List.getElem?_eq_some_iff.1 hu).1
    have := hc i j (by omega) (by simpa using hj)
    rw [Nat.add_assoc]
    rw [show [Gen.CT.int .i64, .int .i64, .int .i64, .int .i64, .slice bf [.str, .int .i64, .int .i64], .int .i64, .int .i64].length = 7 from rfl] at this
    rw [this]
    match j, hj with
    | 0, _ => rw [e0]; exact hu
    | 1, _ => rw [e1]; exact hu
    | 2, _ => rw [e2]; exact hu
    | 3, _ => rw [e3]; exact hu
    | 4, _ => exact hu
    | 5, _ => rw [e5]; exact hu
    | 6, _ => rw [e6]; exact hu
  obtain ⟨L, hL, hP⟩ := list_of len key
  refine ⟨A, cap, L, by rw [hL], by rw [hL]; exact hl, hm, fun t ht => ?_, fun k t ht => (hP k t ht).2⟩
  obtain ⟨i, hi⟩ := List.mem_iff_getElem?.1 ht
  exact (hP i t hi).1
def typesOrderAts : List Gen.AT := [.one (.slice 72 [.int .i64, .int .i64, .int .i64, .int .i64, .slice 32 [.str, .int .i64, .int .i64], .int .i64, .int .i64]), .one (.int .i64), .one (.int .i64), .one (.int .i64)]
theorem typesOrder_args (W : World) (vs : List Value) (h : Gen.ArgsGood W typesOrderAts vs) :
    Calls Try.prog 3 vs.toArray W fun e W' => e = .returned (.bool true) ∧ Below W.heap.size W W' := by
  match vs, h with
  | [v0, v1, v2, v3], h =>
    obtain ⟨h0, h1, h2, h3, _⟩ := h
    obtain ⟨a, rfl, wa⟩ := h1.int_inv
    obtain ⟨b, rfl, wb⟩ := h2.int_inv
    obtain ⟨d, rfl, wd⟩ := h3.int_inv
    obtain ⟨A, cap, L, rfl, H⟩ := good_tys h0
    exact order_any H a b d wa wb wd
end Go.Proofs.Ytmbnpfjimidggaa
