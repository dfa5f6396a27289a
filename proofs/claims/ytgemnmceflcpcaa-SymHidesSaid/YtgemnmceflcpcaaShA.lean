/- What a module shows, purely; its types as they lie; the shape of a type. -/
import Derived.Test.YtgemnmceflcpcaaSbE
namespace Go.Proofs.Ytgemnmceflcpcaa
open Go Go.RowKit Go.Lib Go.Proofs.Ytgemnmceflcpcaa.Sy
set_option linter.unusedVariables false
set_option linter.unusedSimpArgs false
instance (f : Int) : Decidable (plainF f) := by unfold plainF; infer_instance
/-- A type; a variable; a procedure of a module. -/
structure Ty where
  form : Int
  len : Int
  elem : Int
structure Vd where
  name : ByteArray
  type : Int
  shown : Bool
  ref : Bool
structure Pd where
  name : ByteArray
  shown : Bool
  params : Int
  vars : List Vd
  result : Int
def tyAt (l : List Ty) (t : Int) : Ty := l.getD t.toNat ⟨0, 0, 0⟩
/-- A type's plain form, and whether it is that of what an array of this form has. -/
def shapeF (l : List Ty) (t arr : Int) : Int × Bool :=
  if 0 ≤ t ∧ t < l.length then
    if plainF (tyAt l t).form then ((tyAt l t).form, false)
    else if (tyAt l t).form = arr ∧ 0 ≤ (tyAt l t).elem ∧ (tyAt l t).elem < l.length ∧ plainF (tyAt l (tyAt l t).elem).form then ((tyAt l (tyAt l t).elem).form, true)
    else (0, false)
  else (0, false)
theorem shapeF_out {l : List Ty} {t arr : Int} (h : ¬ (0 ≤ t ∧ t < l.length)) : shapeF l t arr = (0, false) := by unfold shapeF; rw [if_neg h]
theorem shapeF_plain {l : List Ty} {t arr : Int} (h : 0 ≤ t ∧ t < l.length) (hp : plainF (tyAt l t).form) : shapeF l t arr = ((tyAt l t).form, false) := by unfold shapeF; rw [if_pos h, if_pos hp]
theorem shapeF_arr {l : List Ty} {t arr : Int} (h : 0 ≤ t ∧ t < l.length) (hp : ¬ plainF (tyAt l t).form) (ha : (tyAt l t).form = arr ∧ 0 ≤ (tyAt l t).elem ∧ (tyAt l t).elem < l.length ∧ plainF (tyAt l (tyAt l t).elem).form) : shapeF l t arr = ((tyAt l (tyAt l t).elem).form, true) := by unfold shapeF; rw [if_pos h, if_neg hp, if_pos ha]
theorem shapeF_not {l : List Ty} {t arr : Int} (h : 0 ≤ t ∧ t < l.length) (hp : ¬ plainF (tyAt l t).form) (ha : ¬ ((tyAt l t).form = arr ∧ 0 ≤ (tyAt l t).elem ∧ (tyAt l t).elem < l.length ∧ plainF (tyAt l (tyAt l t).elem).form)) : shapeF l t arr = (0, false) := by unfold shapeF; rw [if_pos h, if_neg hp, if_neg ha]
/-- Types as they lie: of each its form, length and element. -/
structure TysAt (w : World) (A : Option Addr) (cap : Nat) (l : List Ty) : Prop where
  fit : l.length ≤ cap
  max : cap ≤ maxLen
  cells : l.length = 0 ∨ ∃ b off, A = some ⟨b, off, none⟩ ∧ b < w.heap.size ∧ ∀ k, k < l.length → w.cell? ⟨b, off + k * 7, none⟩ = some (.int .i64 (tyAt l k).form) ∧ w.cell? ⟨b, off + k * 7 + 1, none⟩ = some (.int .i64 (tyAt l k).len) ∧ w.cell? ⟨b, off + k * 7 + 2, none⟩ = some (.int .i64 (tyAt l k).elem)
  wf : ∀ t ∈ l, (Lit.int .i64 t.form).wf = true ∧ (Lit.int .i64 t.len).wf = true
theorem TysAt.below {w w' : World} {A : Option Addr} {cap : Nat} {l : List Ty} (h : TysAt w A cap l) (hb : Below w.heap.size w w') : TysAt w' A cap l := by
  refine ⟨h.fit, h.max, ?_, h.wf⟩
  rcases h.cells with h0 | ⟨b, off, e, hlt, hc⟩
  · exact .inl h0
  · refine .inr ⟨b, off, e, Nat.lt_of_lt_of_le hlt hb.size, fun k hk => ?_⟩
    have far : ∀ o, w'.cell? ⟨b, o, none⟩ = w.cell? ⟨b, o, none⟩ := fun o => World.cell?_of_block (hb.block b hlt)
    rw [far, far, far]; exact hc k hk
section
variable {w : World}
set_option maxHeartbeats 4000000 in
theorem shape_any {A : Option Addr} {cap : Nat} {l : List Ty} (hT : TysAt w A cap l) (t arr : Int) :
    Calls Try.prog 48 #[.slice A l.length cap, .int .i64 t, .int .i64 arr] w fun e w' => e = .returned (.tuple #[.int .i64 (shapeF l t arr).1, .bool (shapeF l t arr).2]) ∧ w = w' := by
  obtain ⟨h1, h2, h3, _⟩ := hT
  have H3 := Lib.hid h3
  unfold maxLen at h2
  clear h3
  by_cases t0 : t < 0
  · rw [shapeF_out (by omega)]
    go_enter Try.func48, Try.ntmps48
    go_wp2_with fail
    go_ret2
    exact ⟨rfl, rfl⟩
  by_cases tn : (l.length : Int) ≤ t
  · rw [shapeF_out (by omega)]
    go_enter Try.func48, Try.ntmps48
    go_wp2_with fail
    go_ret2
    exact ⟨rfl, rfl⟩
  obtain ⟨k, rfl⟩ := Int.eq_ofNat_of_zero_le (show 0 ≤ t by omega)
  have hk0 : (0 : Int) ≤ (k : Int) := by omega
  have hk1 : (k : Int) < (l.length : Int) := by omega
  have HIN := Lib.hid (And.intro hk0 hk1)
  rcases H3.out with hz | ⟨b, off, rfl, hb, hc⟩
  · omega
  obtain ⟨c0, _, c2⟩ := hc k (by omega)
  have HC := Lib.hid hc
  clear hc t0 tn H3
  by_cases hp : plainF (tyAt l k).form
  · have HP := Lib.hid (plain_any (w := w) (tyAt l k).form (c := true) ⟨fun _ => hp, fun _ => rfl⟩)
    rw [shapeF_plain HIN.out hp]
    generalize (tyAt l k).form = F at *
    clear hp
    go_enter Try.func48, Try.ntmps48
    go_wp2_with (go_at_call 56; refine HP.out.mono ?_; rintro e w1 ⟨rfl, rfl⟩)
    go_ret2
    exact ⟨rfl, rfl⟩
  have HP := Lib.hid (plain_any (w := w) (tyAt l k).form (c := false) ⟨(fun h => by cases h), fun h => absurd h hp⟩)
  by_cases ha : (tyAt l k).form = arr
  · by_cases e0 : 0 ≤ (tyAt l k).elem
    · by_cases e1 : (tyAt l k).elem < l.length
      · obtain ⟨q, hq⟩ : ∃ q : Nat, (tyAt l k).elem = q := ⟨(tyAt l k).elem.toNat, by omega⟩
        obtain ⟨d0, _, _⟩ := HC.out q (by omega)
        rw [hq] at c2
        by_cases hp2 : plainF (tyAt l q).form
        · have HP2 := Lib.hid (plain_any (w := w) (tyAt l q).form (c := true) ⟨fun _ => hp2, fun _ => rfl⟩)
          rw [shapeF_arr HIN.out hp ⟨ha, e0, e1, by rw [hq]; exact hp2⟩, hq]
          rw [ha] at c0 HP
          have hq0 : (0 : Int) ≤ (q : Int) := by omega
          have hq1 : (q : Int) < (l.length : Int) := by omega
          generalize (tyAt l q).form = F at *
          clear hp hp2 e0 e1 hq ha
          go_enter Try.func48, Try.ntmps48
          go_upto_region 5 with (go_at_call 56; refine HP.out.mono ?_; rintro e w1 ⟨rfl, rfl⟩)
          go_wp2_with (go_at_call 56; refine HP2.out.mono ?_; rintro e w1 ⟨rfl, rfl⟩)
          go_ret2
          exact ⟨rfl, rfl⟩
        · have HP2 := Lib.hid (plain_any (w := w) (tyAt l q).form (c := false) ⟨(fun h => by cases h), fun h => absurd h hp2⟩)
          rw [shapeF_not HIN.out hp (fun h => hp2 (by have := h.2.2.2; rw [hq] at this; exact this))]
          rw [ha] at c0 HP
          have hq0 : (0 : Int) ≤ (q : Int) := by omega
          have hq1 : (q : Int) < (l.length : Int) := by omega
          generalize (tyAt l q).form = F at *
          clear hp hp2 e0 e1 hq ha
          go_enter Try.func48, Try.ntmps48
          go_upto_region 5 with (go_at_call 56; refine HP.out.mono ?_; rintro e w1 ⟨rfl, rfl⟩)
          go_wp2_with (go_at_call 56; refine HP2.out.mono ?_; rintro e w1 ⟨rfl, rfl⟩)
          go_ret2
          exact ⟨rfl, rfl⟩
      · rw [shapeF_not HIN.out hp (fun h => e1 h.2.2.1)]
        rw [ha] at c0 HP
        have e2 : (l.length : Int) ≤ (tyAt l k).elem := by omega
        generalize (tyAt l k).elem = E at *
        clear hp ha e1
        go_enter Try.func48, Try.ntmps48
        go_upto_region 5 with (go_at_call 56; refine HP.out.mono ?_; rintro e w1 ⟨rfl, rfl⟩)
        go_wp2_with fail
        go_ret2
        exact ⟨rfl, rfl⟩
    · rw [shapeF_not HIN.out hp (fun h => e0 h.2.1)]
      rw [ha] at c0 HP
      have e2 : (tyAt l k).elem < 0 := by omega
      generalize (tyAt l k).elem = E at *
      clear hp ha e0
      go_enter Try.func48, Try.ntmps48
      go_upto_region 5 with (go_at_call 56; refine HP.out.mono ?_; rintro e w1 ⟨rfl, rfl⟩)
      go_wp2_with fail
      go_ret2
      exact ⟨rfl, rfl⟩
  · rw [shapeF_not HIN.out hp (fun h => ha h.1)]
    have a1 : ((tyAt l k).form == arr) = false := by simpa using ha
    generalize (tyAt l k).form = F at *
    generalize (tyAt l k).elem = E at *
    clear hp ha
    go_enter Try.func48, Try.ntmps48
    go_upto_region 5 with (go_at_call 56; refine HP.out.mono ?_; rintro e w1 ⟨rfl, rfl⟩)
    go_wp2_with fail
    go_ret2
    exact ⟨rfl, rfl⟩
end
end Go.Proofs.Ytgemnmceflcpcaa
