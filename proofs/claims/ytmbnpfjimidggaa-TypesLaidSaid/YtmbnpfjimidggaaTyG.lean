/- Two types held against each other. -/
import Derived.Test.YtmbnpfjimidggaaTyF
namespace Go.Proofs.Ytmbnpfjimidggaa
open Go Go.RowKit Go.Lib Go.Proofs.Ytmbnpfjimidggaa.Ty
set_option linter.unusedVariables false
set_option linter.unusedSimpArgs false
attribute [local go_sem ↓] exec_load_type exec_store_type exec_load_field exec_store_field
attribute [local go_sem] tcells fcells
theorem belDrewN {B : Nat} {a w : World} (h : Below B a w) (n : Nat) : Below B a (w.drewN n) := ⟨h.os, h.tape, h.output, h.size, h.block⟩
theorem Fld.ext_iff' (f g : Fld) : f = g ↔ f.name = g.name ∧ f.type = g.type ∧ f.off = g.off := by
  constructor
  · intro h; subst h; exact ⟨rfl, rfl, rfl⟩
  · intro ⟨h1, h2, h3⟩; cases f; cases g; simp only at h1 h2 h3; subst h1; subst h2; subst h3; rfl
theorem fieldEq (f g : Fld) (w : World) {b : Bool} (hb : b = true ↔ f = g) : (Op.equalIn 10000 35 (.agg (fcells f)) (.agg (fcells g))).run Try.prog w = .ok b w := by
  rw [Fld.ext_iff'] at hb
  have hs : f.name.toList = g.name.toList ↔ f.name = g.name := by
    have := str_beq f.name g.name
    rw [Bool.eq_iff_iff, beq_iff_eq, decide_eq_true_iff] at this; exact this
  simp [go_sem, Try.underlying35]
  by_cases h1 : f.name = g.name
  · rw [if_pos (hs.2 h1)]
    by_cases h2 : f.type = g.type
    · rw [if_pos h2]
      by_cases h3 : f.off = g.off
      · rw [if_pos h3, hb.2 ⟨h1, h2, h3⟩]
      · rw [if_neg h3, Bool.eq_false_iff.2 (fun h => h3 (hb.1 h).2.2)]
    · rw [if_neg h2, Bool.eq_false_iff.2 (fun h => h2 (hb.1 h).2.1)]
  · rw [if_neg (fun h => h1 (hs.1 h)), Bool.eq_false_iff.2 (fun h => h1 (hb.1 h).1)]
theorem neq_field (f g : Fld) {b : Bool} (hb : b = true ↔ f = g) (w : World) : (binOp .neq 35 (.agg (fcells f)) (.agg (fcells g))).run Try.prog w = .ok (.bool (!b)) w := by
  rw [run_neq_struct, fieldEq f g w hb]; rfl
section
variable {w : World} {A : Option Addr} {cap : Nat} {L : List Typ}
theorem list_ext_get {F G : List Fld} (hl : F.length = G.length) (h : ∀ j f, j < F.length → F[j]? = some f → G[j]? = some f) : F = G := by
  apply List.ext_getElem?
  intro j
  by_cases hj : j < F.length
  · rw [List.getElem?_eq_getElem hj]; exact (h j _ hj (List.getElem?_eq_getElem hj)).symm
  · rw [List.getElem?_eq_none (by omega), List.getElem?_eq_none (by omega)]
set_option maxHeartbeats 2000000 in
theorem equal_any {fv gv : Value} {F G : List Fld} (hF : FldsAt w fv F) (hG : FldsAt w gv G) {b : Bool} (hb : b = true ↔ F = G) :
    Calls Try.prog 30 #[fv, gv] w fun e w' => e = .returned (.bool b) ∧ Below w.heap.size w w' := by
  obtain ⟨A1, cap1, rfl, hc1, hc2, hA1⟩ := hF.form
  obtain ⟨A2, cap2, rfl, hd1, hd2, hA2⟩ := hG.form
  unfold maxLen at hc2 hd2
  by_cases hl : F.length = G.length
  · have hl1 : ((F.length : Int) != (G.length : Int)) = false := by rw [hl]; simp
    rcases hA1 with rfl | ⟨b1, off1, rfl, hb1, hr1⟩
    · have : G = [] := List.length_eq_zero_iff.1 hl.symm
      subst this
      obtain rfl : b = true := hb.2 rfl
      go_enter Try.func30, Try.ntmps30
      go_wp2_with fail
      refine wp_loop_rounds 1 ?_
      rw [rounds_succ]
      go_wp2_with fail
      go_ret
      exact ⟨rfl, Below.refl _ _⟩
    · rcases hA2 with rfl | ⟨b2, off2, rfl, hb2, hr2⟩
      · have : F = [] := List.length_eq_zero_iff.1 hl
        subst this
        obtain rfl : b = true := hb.2 rfl
        go_enter Try.func30, Try.ntmps30
        go_wp2_with fail
        refine wp_loop_rounds 1 ?_
        rw [rounds_succ]
        go_wp2_with fail
        go_ret
        exact ⟨rfl, Below.refl _ _⟩
      · have HR1 := Lib.hid hr1
        have HR2 := Lib.hid hr2
        have HL := Lib.hid hl
        have HBB := Lib.hid hb
        clear hr1 hr2 hF hG hb
        rw [← hl] at hd1 ⊢
        clear hl hl1
        go_enter Try.func30, Try.ntmps30
        go_wp2_with fail
        go_loopw [13] (fun v wr => ∃ k : Nat, k ≤ F.length ∧ v = .int .i64 k ∧ (∀ j f, j < k → F[j]? = some f → G[j]? = some f) ∧ Below w.heap.size w wr) (fun v _ => F.length - (intOf v).toNat)
        case atStart => exact ⟨0, Nat.zero_le _, rfl, fun j f hj => absurd hj (by omega), Below.refl _ _⟩
        case round =>
          obtain ⟨k, hk, rfl, hno, hB⟩ := hrel
          have HN := Lib.hid hno
          have HB := Lib.hid hB
          clear hno hB
          by_cases hlt : k < F.length
          · obtain ⟨f, hf⟩ : ∃ f, F[k]? = some f := ⟨F[k], List.getElem?_eq_getElem hlt⟩
            have hlt2 : k < G.length := by rw [← HL.out]; exact hlt
            obtain ⟨g, hg⟩ : ∃ g, G[k]? = some g := ⟨G[k], List.getElem?_eq_getElem hlt2⟩
            have l1 := fun n => load_field_mid (w := wr.drewN n) (range_below (HR1.out k f hf) (belDrewN HB.out n) hb1) rfl
            have l2 := fun n => load_field_mid (w := wr.drewN n) (range_below (HR2.out k g hg) (belDrewN HB.out n) hb2) rfl
            have l10 := load_field_mid (range_below (HR1.out k f hf) HB.out hb1) rfl
            have l20 := load_field_mid (range_below (HR2.out k g hg) HB.out hb2) rfl
            have HFk := Lib.hid hf
            have HGk := Lib.hid hg
            clear hf hg hlt2
            have hk1 : (0 : Int) ≤ (k : Int) := by omega
            have hk2 : (k : Int) < (F.length : Int) := by omega
            by_cases he : f = g
            · have hq := neq_field f g (b := true) ⟨fun _ => he, fun _ => rfl⟩
              have HI := Lib.hid (show ∀ j f', j < k + 1 → F[j]? = some f' → G[j]? = some f' from fun j f' hj hf' => by
                by_cases e : j = k
                · subst e; rw [HFk.out] at hf'; cases hf'; rw [HGk.out, he]
                · exact HN.out j f' (by omega) hf')
              clear he
              go_wp2_with fail
              go_quiet (fail)
              go_wp2_with fail
              go_roundw
              case rel => exact ⟨k + 1, by omega, by go_num, HI.out, belDrewN HB.out _⟩
              case measure => simp [intOf]; omega
            · have hq := neq_field f g (b := false) ⟨(fun h => by cases h), fun h => absurd h he⟩
              obtain rfl : b = false := by
                cases b with
                | false => rfl
                | true =>
                  have := HBB.out.1 rfl
                  rw [← this, HFk.out] at HGk
                  exact absurd (Option.some.inj HGk.out) he
              clear he
              go_wp2_with fail
              go_quiet (fail)
              go_wp2_with fail
              go_ret
              exact ⟨rfl, belDrewN HB.out _⟩
          · obtain rfl : k = F.length := by omega
            obtain rfl : b = true := HBB.out.2 (list_ext_get HL.out (fun j f hj hf => HN.out j f hj hf))
            go_wp2_with fail
            go_ret
            exact ⟨rfl, HB.out⟩
  · obtain rfl : b = false := by
      cases b with
      | false => rfl
      | true => exact absurd (congrArg List.length (hb.1 rfl)) hl
    have hl1 : ((F.length : Int) != (G.length : Int)) = true := by simp; omega
    clear hF hG hA1 hA2 hb
    go_enter Try.func30, Try.ntmps30
    go_wp2_with fail
    go_ret
    exact ⟨rfl, Below.refl _ _⟩
end
end Go.Proofs.Ytmbnpfjimidggaa
