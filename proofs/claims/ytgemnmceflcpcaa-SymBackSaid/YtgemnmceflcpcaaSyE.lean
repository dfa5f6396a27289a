/- May a procedure be. -/
import Derived.Test.YtgemnmceflcpcaaSyD
import Derived.Deep.CutRange
import Derived.Deep.DeepCutAuto
namespace Go.Proofs.Ytgemnmceflcpcaa
open Go Go.RowKit Go.Lib Go.Proofs.Ytgemnmceflcpcaa.Sy
set_option linter.unusedVariables false
set_option linter.unusedSimpArgs false
attribute [local go_sem ↓] exec_load_const exec_store_const exec_load_var exec_store_var exec_load_proc exec_store_proc
attribute [local go_sem] ccells vcells pcells
@[reducible] def zVar : Array Value := #[.string ⟨#[]⟩, .int .i64 0, .int .i64 0, .bool false, .bool false]
def pvOk (x : Vr) : Prop := plainF x.form ∧ x.name = ⟨#[]⟩ ∧ x.len = 0
section
variable {w : World}
set_option maxHeartbeats 4000000 in
set_option maxRecDepth 100000 in
theorem procedure_any (p : Pr) {pv : Value} (hn : p.name.size ≤ maxLen) (hv : VrsAt w pv p.params) {k : Bool} (hc : IsB k (prOk p)) : Calls Try.prog 28 #[.agg (pcells p pv)] w fun e w' => e = .returned (.bool k) ∧ Below w.heap.size w w' := by
  obtain ⟨nm, ps, res⟩ := p
  simp only at hn hv
  obtain ⟨A, cap, rfl, hc1, hc2, hA⟩ := hv.1.form
  rw [List.length_map] at *
  unfold maxLen at hc2
  have hb0 := (Below.refl w.heap.size w).alloc (Nat.le_refl _) (.cells #[.string nm, .slice A ps.length cap, .int .i64 res] 63)
  have kb0 := Blk.new w #[.string nm, .slice A ps.length cap, .int .i64 res] 63
  have HB0 := Lib.hid hb0
  have KB0 := Lib.hid kb0
  have HC := Lib.hid hc
  have HV := Lib.hid hv
  have HA := Lib.hid hA
  clear hc hv hA hb0 kb0
  dsimp only [pcells]
  go_enter Try.func28, Try.ntmps28
  go_wp2_with fail
  go_loopw [8] (fun v wr => ∃ i : Nat, i ≤ ps.length ∧ v = .int .i64 i ∧ Hid (∀ j x, j < i → ps[j]? = some x → pvOk x) ∧ Hid (Blk wr w.heap.size #[.string nm, .slice A ps.length cap, .int .i64 res] 63) ∧ Hid (Below w.heap.size w wr)) (fun v _ => ps.length - (intOf v).toNat)
  case atStart => exact ⟨0, Nat.zero_le _, rfl, Lib.hid (fun j x hj => absurd hj (by omega)), KB0, HB0⟩
  case round =>
    obtain ⟨i, hi, rfl, HN, KB, HB⟩ := hrel
    clear KB0 HB0
    by_cases hlt : i < ps.length
    · obtain ⟨x, hx⟩ : ∃ x, ps[i]? = some x := ⟨ps[i], List.getElem?_eq_getElem hlt⟩
      rcases HA.out with hE | ⟨b, off, rfl, hb, hr⟩
      · have : ps = [] := by simpa using hE
        subst this; simp at hlt
      have hrx := hr i (vcells x).toList (by rw [List.getElem?_map, hx]; rfl)
      have hl := load_mid Try.underlying73 rfl sz_var (range_below hrx HB.out hb) rfl
      have hst := store_blk_new wr zVar (vcells x) 73 sz_var rfl rfl (vcells_one x)
      have HX := Lib.hid hx
      have hlt1 : (i : Int) < (ps.length : Int) := by omega
      have HB2 := Lib.hid (HB.out.alloc HB.out.size (.cells (vcells x) 73))
      have KX := Lib.hid (Blk.new wr (vcells x) 73)
      have KB2 := Lib.hid (KB.out.old (.cells (vcells x) 73))
      clear hrx hr hx
      go_upto_region 4 with fail
      clear hl hst
      generalize wr.alloc (.cells (vcells x) 73) = W1 at KX KB2 HB2 ⊢
      have x0 : W1.cell? ⟨wr.heap.size, 0, none⟩ = some (.string x.name) := KX.out.cell 0
      have x1 : W1.cell? ⟨wr.heap.size, 1, none⟩ = some (.int .i64 x.form) := KX.out.cell 1
      have x2 : W1.cell? ⟨wr.heap.size, 2, none⟩ = some (.int .i64 x.len) := KX.out.cell 2
      have bad : ¬ pvOk x → k = false := fun h => HC.out.no (fun g => h (g.1 x (List.mem_of_getElem? HX.out)))
      by_cases p1 : plainF x.form
      · have HQ := Lib.hid (show IsB true (plainF x.form) from ⟨fun _ => p1, fun _ => rfl⟩)
        by_cases p2 : x.name = ⟨#[]⟩
        · rw [p2] at x0
          by_cases p3 : x.len = 0
          · rw [p3] at x2
            have HI := Lib.hid (show ∀ j y, j < i + 1 → ps[j]? = some y → pvOk y from fun j y hj hy => by
              by_cases e : j = i
              · subst e; rw [HX.out] at hy; cases hy; exact ⟨p1, p2, p3⟩
              · exact HN.out j y (by omega) hy)
            clear p1 p2 p3 bad
            go_wp2_with (go_at_call 56; refine (plain_any x.form HQ.out).mono ?_; rintro e w1 ⟨rfl, rfl⟩)
            go_roundw
            case rel => exact ⟨i + 1, by omega, by go_num, HI, KB2, HB2⟩
            case measure => simp [intOf]; omega
          · have p31 : (x.len != 0) = true := by simpa using p3
            obtain rfl := bad (fun g => p3 g.2.2)
            clear p1 p2 p3 bad
            go_wp2_with (go_at_call 56; refine (plain_any x.form HQ.out).mono ?_; rintro e w1 ⟨rfl, rfl⟩)
            go_ret
            exact ⟨rfl, HB2.out⟩
        · have z1 := str_ne p2
          have z2 := str_ne2 p2
          obtain rfl := bad (fun g => p2 g.2.1)
          clear p1 p2 bad
          go_wp2_with (go_at_call 56; refine (plain_any x.form HQ.out).mono ?_; rintro e w1 ⟨rfl, rfl⟩)
          go_ret
          exact ⟨rfl, HB2.out⟩
      · have HQ := Lib.hid (show IsB false (plainF x.form) from ⟨(fun h => by cases h), fun h => absurd h p1⟩)
        obtain rfl := bad (fun g => p1 g.1)
        clear p1 bad
        go_wp2_with (go_at_call 56; refine (plain_any x.form HQ.out).mono ?_; rintro e w1 ⟨rfl, rfl⟩)
        go_ret
        exact ⟨rfl, HB2.out⟩
    · obtain rfl : i = ps.length := by omega
      have KBC := KB.out
      have k1 : wr.cell? ⟨w.heap.size, 1, none⟩ = some (.slice A ps.length cap) := KBC.cell 1
      have k2 : wr.cell? ⟨w.heap.size, 2, none⟩ = some (.int .i64 res) := KBC.cell 2
      have hall : ∀ x ∈ ps, pvOk x := fun x hx => by
        obtain ⟨j, hj⟩ := List.mem_iff_getElem?.1 hx
        exact HN.out j x (List.getElem?_eq_some_iff.1 hj).1 hj
      clear KBC
      by_cases l8 : ps.length ≤ 8
      · have l81 : (ps.length : Int) ≤ 8 := by omega
        by_cases r0 : res = 0
        · subst r0
          obtain rfl := HC.out.yes ⟨hall, l8, .inl rfl⟩
          clear hall
          go_wp2_with fail
          go_ret
          exact ⟨by first | rfl | (refine ret_bool ?_; simp; omega), HB.out⟩
        · have r01 : (res == 0) = false := by simpa using r0
          obtain ⟨q, hq⟩ := boolOf (plainF res)
          have hkq : k = q := by
            rw [Bool.eq_iff_iff, HC.out.iff, hq.iff]
            constructor
            · intro h; rcases h.2.2 with h | h
              · exact absurd h r0
              · exact h
            · intro h; exact ⟨hall, l8, .inr h⟩
          subst hkq
          have HQ := Lib.hid hq
          clear hall r0 hq
          go_wp2_with (go_at_call 56; refine (plain_any res HQ.out).mono ?_; rintro e w1 ⟨rfl, rfl⟩)
          go_ret
          exact ⟨by first | rfl | (refine ret_bool ?_; simp; omega), HB.out⟩
      · obtain rfl := HC.out.no (fun h => l8 h.2.1)
        have l81 : 8 < (ps.length : Int) := by omega
        clear hall
        go_wp2_with fail
        go_ret
        exact ⟨by first | rfl | (refine ret_bool ?_; simp; omega), HB.out⟩
end
end Go.Proofs.Ytgemnmceflcpcaa
