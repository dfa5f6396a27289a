/- A field of a name; two types held against each other. -/
import Derived.Test.YtmbnpfjimidggaaTyD
import Derived.DeepKeys
import Derived.Deep.QuietTactic
import Derived.BigQuiet
namespace Go.Proofs.Ytmbnpfjimidggaa
open Go Go.RowKit Go.Lib Go.Proofs.Ytmbnpfjimidggaa.Ty
set_option linter.unusedVariables false
set_option linter.unusedSimpArgs false
attribute [local go_sem ↓] exec_load_type exec_store_type exec_load_field exec_store_field
attribute [local go_sem] tcells fcells
/-- Where the first field of a name stands; -1: nowhere. -/
def idxI (F : List Fld) (nm : ByteArray) : Int := match F.findIdx? (fun f => decide (f.name = nm)) with | some i => i | none => -1
theorem idxI_at {F : List Fld} {nm : ByteArray} {k : Nat} {f : Fld} (hk : F[k]? = some f) (hn : f.name = nm) (hno : ∀ j g, j < k → F[j]? = some g → g.name ≠ nm) : idxI F nm = k := by
  unfold idxI
  have hl : k < F.length := (List.getElem?_eq_some_iff.1 hk).1
  have : F.findIdx? (fun f => decide (f.name = nm)) = some k := by
    rw [List.findIdx?_eq_some_iff_getElem]
    refine ⟨hl, by rw [(List.getElem?_eq_some_iff.1 hk).2]; simpa using hn, fun j hj => ?_⟩
    have := hno j F[j] hj (List.getElem?_eq_getElem (by omega))
    simpa using this
  rw [this]
theorem idxI_none {F : List Fld} {nm : ByteArray} (hno : ∀ j g, j < F.length → F[j]? = some g → g.name ≠ nm) : idxI F nm = -1 := by
  unfold idxI
  have : F.findIdx? (fun f => decide (f.name = nm)) = none := by
    rw [List.findIdx?_eq_none_iff]
    intro f hf
    obtain ⟨i, hi⟩ := List.mem_iff_getElem?.1 hf
    have := hno i f (List.getElem?_eq_some_iff.1 hi).1 hi
    simpa using this
  rw [this]
theorem str_beq (a b : ByteArray) : (a.toList == b.toList) = decide (a = b) := by
  rw [Bool.eq_iff_iff, beq_iff_eq, decide_eq_true_iff, ByteArray.toList_eq, ByteArray.toList_eq]
  constructor
  · intro h; cases a; cases b; congr 1; exact Array.toList_inj.1 h
  · intro h; rw [h]
section
variable {w : World}
set_option maxHeartbeats 1000000 in
theorem field1_any (f : Fld) (g : Nat) (nm : ByteArray) (t : TypeId) (hg : Blk w g #[.string nm] t) :
    Calls Try.prog 29 #[.agg (fcells f), .pointer (some ⟨g, 0, none⟩)] w fun e w' => e = .returned (.bool (decide (f.name = nm))) ∧ Below w.heap.size w w' := by
  have hc : (w.alloc (.cells (fcells f) 35)).cell? ⟨g, 0, none⟩ = some (.string nm) := (hg.old _).cell 0
  go_enter Try.func29, Try.ntmps29
  go_wp2_with fail
  go_ret
  exact ⟨ret_bool (str_beq _ _), (Below.refl _ _).alloc (Nat.le_refl _) _⟩
/-- What no field's address is: of no field. -/
theorem FldsAt.form {fv : Value} {F : List Fld} (h : FldsAt w fv F) : ∃ A cap, fv = .slice A F.length cap ∧ F.length ≤ cap ∧ cap ≤ maxLen ∧ (F = [] ∨ ∃ b off, A = some ⟨b, off, none⟩ ∧ b < w.heap.size ∧ ∀ k f, F[k]? = some f → w.rangeAt b (off + k * 3) (fcells f).toList) := by
  obtain ⟨A, cap, rfl, h1, h2, h3, h4⟩ := h
  refine ⟨A, cap, rfl, h1, h2, ?_⟩
  cases F with
  | nil => exact .inl rfl
  | cons f r =>
    right
    obtain ⟨b, off, e, hlt, _⟩ := h4 0 f rfl
    refine ⟨b, off, e, hlt, fun k f hf => ?_⟩
    obtain ⟨b', off', e', _, hr⟩ := h4 k f hf
    rw [e] at e'; cases e'; exact hr
set_option maxHeartbeats 1000000 in
theorem index_any {fv : Value} {F : List Fld} (hF : FldsAt w fv F) (g : Nat) (nm : ByteArray) (t : TypeId) (hg : Blk w g #[.string nm] t) :
    Calls Try.prog 28 #[fv, .func (.func 29) #[] #[.pointer (some ⟨g, 0, none⟩)]] w fun e w' => e = .returned (.int .i64 (idxI F nm)) ∧ Below w.heap.size w w' := by
  obtain ⟨A, cap, rfl, hc1, hc2, hF'⟩ := hF.form
  rcases hF' with rfl | ⟨b, off, rfl, hb, hr⟩
  · go_enter Try.func28, Try.ntmps28
    go_wp2_with fail
    refine wp_loop_rounds 1 ?_
    rw [rounds_succ]
    go_wp2_with fail
    go_ret
    exact ⟨rfl, Below.refl _ _⟩
  · unfold maxLen at hc2
    have HF := Lib.hid hF
    have HG := Lib.hid hg
    have HR := Lib.hid hr
    clear hF hg hr
    go_enter Try.func28, Try.ntmps28
    go_wp2_with fail
    go_loopw [5, 8] (fun u v wr => ∃ k : Nat, k ≤ F.length ∧ v = .int .i64 k ∧ (∀ j f, j < k → F[j]? = some f → f.name ≠ nm) ∧ Below w.heap.size w wr) (fun _ v _ => F.length - (intOf v).toNat)
    case atStart => exact ⟨0, Nat.zero_le _, rfl, fun j f hj => absurd hj (by omega), Below.refl _ _⟩
    case round =>
      obtain ⟨k, hk, rfl, hno, hB⟩ := hrel
      have HN := Lib.hid hno
      clear hno
      by_cases hlt : k < F.length
      · obtain ⟨f, hf⟩ : ∃ f, F[k]? = some f := ⟨F[k], List.getElem?_eq_getElem hlt⟩
        have hl := load_field_mid (range_below (HR.out k f hf) hB hb) rfl
        have H1 := Lib.hid (field1_any f g nm t (HG.out.below hB HG.out.lt))
        have HFk := Lib.hid hf
        have HB := Lib.hid hB
        clear hf hB
        by_cases hn : f.name = nm
        · have hd : decide (f.name = nm) = true := by simpa using hn
          rw [hd] at H1
          have HI := Lib.hid (idxI_at HFk.out hn HN.out)
          clear hn hd
          go_wp2_with (go_at_call 29; refine H1.out.mono ?_; rintro e w1 ⟨rfl, hb1⟩)
          go_ret
          exact ⟨ret_int HI.out.symm, HB.out.trans (hb1.mono HB.out.size)⟩
        · have hd : decide (f.name = nm) = false := by simpa using hn
          rw [hd] at H1
          have HI := Lib.hid (show ∀ j f', j < k + 1 → F[j]? = some f' → f'.name ≠ nm from fun j f' hj hf' => by
            by_cases e : j = k
            · subst e; rw [HFk.out] at hf'; cases hf'; exact hn
            · exact HN.out j f' (by omega) hf')
          clear hn hd
          go_wp2_with (go_at_call 29; refine H1.out.mono ?_; rintro e w1 ⟨rfl, hb1⟩)
          have HB2 := Lib.hid (HB.out.trans (hb1.mono HB.out.size))
          go_roundw
          case rel => exact ⟨k + 1, by omega, by go_num, HI.out, HB2.out⟩
          case measure => simp [intOf]; omega
      · obtain rfl : k = F.length := by omega
        have HI := Lib.hid (idxI_none HN.out)
        have HB := Lib.hid hB
        clear hB
        go_wp2_with fail
        go_ret
        exact ⟨ret_int HI.out.symm, HB.out⟩
end
end Go.Proofs.Ytmbnpfjimidggaa
