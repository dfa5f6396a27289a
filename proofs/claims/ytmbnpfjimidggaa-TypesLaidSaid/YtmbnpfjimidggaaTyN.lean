/- A list's copy. -/
import Derived.Test.YtmbnpfjimidggaaTyM
import Derived.WalkSpells
namespace Go.Proofs.Ytmbnpfjimidggaa
open Go Go.RowKit Go.Lib Go.Proofs.Ytmbnpfjimidggaa.Ty
set_option linter.unusedVariables false
set_option linter.unusedSimpArgs false
attribute [local go_sem ↓] exec_load_type exec_store_type exec_load_field exec_store_field
attribute [local go_sem] tcells fcells
theorem flatF_inv : ∀ (l : List Fld) (x : Nat) (u : Value), (flatF l)[x]? = some u → ∃ k f j, l[k]? = some f ∧ x = k * 3 + j ∧ (fcells f).toList[j]? = some u
  | [], x, u, h => by simp [flatF] at h
  | f :: l, x, u, h => by
    unfold flatF at h
    rw [List.flatMap_cons] at h
    by_cases hx : x < 3
    · rw [List.getElem?_append_left (by simpa using hx)] at h
      exact ⟨0, f, x, rfl, by omega, h⟩
    · rw [List.getElem?_append_right (by simp; omega)] at h
      obtain ⟨k, g, j, h1, h2, h3⟩ := flatF_inv l _ u h
      refine ⟨k + 1, g, j, by simpa using h1, ?_, h3⟩
      simp at h2; omega
theorem flatF_one (l : List Fld) : ∀ u ∈ flatF l, u.oneCell' = true := fun u hu => by
  unfold flatF at hu
  obtain ⟨f, _, h⟩ := List.mem_flatMap.1 hu
  exact fcells_one f u (by simpa using h)
/-- A list of the call's own that reads as these fields. -/
def CloneP (F : List Fld) (w : World) (e : Ending) (w' : World) : Prop := ∃ fv, e = .returned fv ∧ FldsAt w' fv F ∧ Below w.heap.size w w' ∧ ∀ g, fv.ownBlock = some g → w.heap.size ≤ g ∧ g < w'.heap.size
theorem own_empty (w : World) (B : Nat) (hB : B ≤ w.heap.size) (t : TypeId) : (w.alloc (.cells #[] t)).ownsRow B t 3 (.slice (some ⟨w.heap.size, 0, none⟩) 0 0) 0 [] :=
  World.ownsRow_made w #[] 0 hB (by unfold maxLen; omega) rfl
section
variable {w : World}
set_option maxHeartbeats 2000000 in
theorem clone_any {fv : Value} {F : List Fld} (hF : FldsAt w fv F) (hfew : F.length ≤ 200) :
    Calls Try.prog 24 #[fv] w (CloneP F w) := by
  have hok := hF.ok
  obtain ⟨A, cap, rfl, hc1, hc2, hA⟩ := hF.form
  have hq : ∀ W : World, (binOp .eql 25 (.slice A F.length cap) (.slice none 0 0)).run Try.prog W = .ok (.bool A.isNone) W := fun W => Lib.run_eql_slice_nil W _ _ _ _ _ _ _ Try.underlying25
  cases A with
  | none =>
    have hE : F = [] := by
      rcases hA with h | ⟨b, off, e, _⟩
      · exact h
      · cases e
    subst hE
    have hq0 : ∀ W : World, (binOp .eql 25 (.slice none 0 cap) (.slice none 0 0)).run Try.prog W = .ok (.bool true) W := hq
    clear hq
    go_enter Try.func24, Try.ntmps24
    go_wp2_with fail
    go_ret
    exact ⟨_, rfl, FldsAt.none_ _, Below.refl _ _, fun g h => by cases h⟩
  | some ad =>
    have hcell : ∀ j u, (flatF F)[j]? = some u → w.cell? (ad.add j) = some u := fun j u hj => by
      obtain ⟨k, f, i, h1, rfl, h3⟩ := flatF_inv F j u hj
      rcases hA with h | ⟨b, off, e, hb, hr⟩
      · subst h; simp at h1
      · cases e
        rw [Addr.add_mid, ← Nat.add_assoc]
        exact hr k f h1 i u h3
    obtain ⟨i0, hi, hz0, hz1, hz2⟩ := info_parts info_field
    have HI := Lib.hid hi
    have HZ0 := Lib.hid hz0
    have HZ1 := Lib.hid hz1
    have HZ2 := Lib.hid hz2
    have HO := Lib.hid (own_empty w w.heap.size (Nat.le_refl _) 35)
    have HCE := Lib.hid hcell
    have HOK := Lib.hid hok
    have HFEW := Lib.hid hfew
    have HLEN := Lib.hid (show (flatF F).length = F.length * 3 from flatF_length F)
    clear hi hz0 hz1 hz2 hcell hok hF hA hfew
    go_enter Try.func24, Try.ntmps24
    go_wp2_with (at_builtin; go_must (refine wpList_append_own _ rfl _ _ 25 rfl w.heap.size 35 i0 (.agg zField) 3 32 Try.underlying25 HI.out HZ0.out HZ1.out HZ2.out rfl (by decide) _ _ _ rfl HO.out ad F.length cap (flatF F) rfl HLEN.out ?c1 ?c2 ?c3 ?c4 ?c5 ?_))
    case c1 => exact fun j u hj => (Touch.of_below ((Below.refl w.heap.size w).alloc (Nat.le_refl _) _) []).cell (HCE.out j u hj) (by simp)
    case c2 => exact flatF_one F
    case c3 => have := HFEW.out; unfold maxLen; omega
    case c4 => have := HFEW.out; omega
    case c5 => simp
    intro v' w8 hown8 hgrow8 _
    have T8 := Touch.of_grown hgrow8
    have OWN8 := Lib.hid hown8
    have HB8 := Lib.hid (((Below.refl w.heap.size w).alloc (Nat.le_refl _) (.cells #[] 35)).trans (T8.below (by simp) (fun g hg => by simp [Value.ownBlock] at hg; omega)))
    clear hown8 hgrow8 T8 HO
    go_wp2_with fail
    go_ret
    exact ⟨v', rfl, own_flds OWN8.out HOK.out, HB8.out, fun g hg => by have := own_lt OWN8.out g hg; omega⟩
end
end Go.Proofs.Ytmbnpfjimidggaa
