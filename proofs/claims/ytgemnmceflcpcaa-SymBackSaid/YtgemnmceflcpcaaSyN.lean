/- Bytes: a copy, a number behind a copy. -/
import Derived.Test.YtgemnmceflcpcaaSyM
namespace Go.Proofs.Ytgemnmceflcpcaa
open Go Go.RowKit Go.Lib Go.Proofs.Ytgemnmceflcpcaa.Sy
set_option linter.unusedVariables false
set_option linter.unusedSimpArgs false
/-- A slice that reads as these bytes. -/
abbrev BytesAt (w : World) (v : Value) (l : List Int) : Prop := RowsAt w v 1 (l.map fun b => [encB b])
theorem flat_one (l : List Int) : (l.map fun b => [encB b]).flatten = l.map encB := by induction l with | nil => rfl | cons a l ih => simp [ih]
theorem own_bytes {w : World} {B : Nat} {v : Value} {l : List Int} (h : OwnB w B v l) : BytesAt w v l :=
  own_rows (B := B) (ty := 5) (fun r hr => by obtain ⟨b, _, rfl⟩ := List.mem_map.1 hr; rfl) (by rw [List.length_map, flat_one]; exact h)
theorem own_emptyB (w : World) (B : Nat) (hB : B ≤ w.heap.size) (t : TypeId) : (w.alloc (.cells #[] t)).ownsRow B t 1 (.slice (some ⟨w.heap.size, 0, none⟩) 0 0) 0 [] :=
  World.ownsRow_made w #[] 0 hB (by unfold maxLen; omega) rfl
/-- Bytes in new memory. -/
def NewB (l : List Int) (w : World) (e : Ending) (w' : World) : Prop := ∃ v, e = .returned v ∧ OwnB w' w.heap.size v l ∧ Below w.heap.size w w'
section
variable {w : World}
set_option maxHeartbeats 2000000 in
set_option maxRecDepth 100000 in
theorem clone_bytes {v : Value} {l : List Int} (hF : BytesAt w v l) (hl : l.length ≤ 100000000) :
    Calls Try.prog 76 #[v] w (NewB l w) := by
  obtain ⟨A, cap, rfl, hc1, hc2, hA⟩ := list_of hF (List.length_map _)
  have hq : ∀ W : World, (binOp .eql 30 (.slice A l.length cap) (.slice none 0 0)).run Try.prog W = .ok (.bool A.isNone) W := fun W => Lib.run_eql_slice_nil W _ _ _ _ _ _ _ Try.underlying30
  have HL := Lib.hid hl
  clear hF hl
  cases A with
  | none =>
    have hE : l = [] := by
      rcases hA with h | ⟨b, off, e, _⟩
      · exact List.length_eq_zero_iff.1 h
      · cases e
    subst hE
    have hq0 : ∀ W : World, (binOp .eql 30 (.slice none 0 cap) (.slice none 0 0)).run Try.prog W = .ok (.bool true) W := hq
    clear hq
    go_enter Try.func76, Try.ntmps76
    go_wp2_with fail
    go_ret
    exact ⟨_, rfl, World.ownsRow_nil _ _ _ _, Below.refl _ _⟩
  | some ad =>
    have hcell : ∀ j u, (l.map encB)[j]? = some u → w.cell? (ad.add j) = some u := fun j u hj => by
      rw [List.getElem?_map] at hj
      cases hx : l[j]? with
      | none => rw [hx] at hj; cases hj
      | some x =>
        rw [hx] at hj
        rcases hA with h | ⟨b, off, e, hb, hr⟩
        · have := (List.getElem?_eq_some_iff.1 hx).1; omega
        · cases e
          have := hr j [encB x] (by rw [List.getElem?_map, hx]; rfl) 0 u (by simpa using hj)
          rw [Addr.add_mid]; simpa using this
    obtain ⟨i0, hi, hz0, hz1, hz2⟩ := info_parts info_u8
    have HI := Lib.hid hi
    have HZ0 := Lib.hid hz0
    have HZ1 := Lib.hid hz1
    have HZ2 := Lib.hid hz2
    have HO := Lib.hid (own_emptyB w w.heap.size (Nat.le_refl _) 5)
    have HCE := Lib.hid hcell
    clear hi hz0 hz1 hz2 hcell hA
    go_enter Try.func76, Try.ntmps76
    go_wp2_with (at_builtin; go_must (refine wpList_append_own _ rfl _ _ 30 rfl w.heap.size 5 i0 (.int .u8 0) 1 1 Try.underlying30 HI.out HZ0.out HZ1.out HZ2.out rfl (by decide) _ _ _ rfl HO.out ad l.length cap (l.map encB) rfl (by simp) ?c1 ?c2 ?c3 ?c4 ?c5 ?_))
    case c1 => exact fun j u hj => (Touch.of_below ((Below.refl w.heap.size w).alloc (Nat.le_refl _) _) []).cell (HCE.out j u hj) (by simp)
    case c2 => exact fun u hu => by obtain ⟨b, _, rfl⟩ := List.mem_map.1 hu; rfl
    case c3 => have := HL.out; unfold maxLen; omega
    case c4 => have := HL.out; omega
    case c5 => simp
    intro v' w8 hown8 hgrow8 _
    have T8 := Touch.of_grown hgrow8
    have OWN8 := Lib.hid (show OwnB w8 w.heap.size v' l by simpa using hown8)
    have HB8 := Lib.hid (((Below.refl w.heap.size w).alloc (Nat.le_refl _) (.cells #[] 5)).trans (T8.below (by simp) (fun g hg => by simp [Value.ownBlock] at hg; omega)))
    clear hown8 hgrow8 T8 HO
    go_wp2_with fail
    go_ret
    exact ⟨v', rfl, OWN8.out, HB8.out⟩
theorem own_touch_below {w0 w w' : World} {v : Value} {l : List Int} (hO : OwnB w w0.heap.size v l) (hb : Below w0.heap.size w0 w) (hT : Touch w w' v.ownBlock.toList) : Below w0.heap.size w0 w' :=
  hb.trans (hT.below hb.size (fun g hg => by
    simp only [Option.mem_toList, Option.mem_def] at hg
    exact (own_lt hO g hg).2))
set_option maxHeartbeats 2000000 in
theorem putuint_any {v : Value} {l : List Int} (hF : BytesAt w v l) (n : Nat) (hn : n < 4294967296) (hl : l.length ≤ 100000000) :
    Calls Try.prog 77 #[v, .int .u32 n] w (NewB (l ++ grps n) w) := by
  have H1 := Lib.hid (clone_bytes hF hl)
  have H2 := Lib.hid (fun (w1 : World) (v1 : Value) (h : OwnB w1 w.heap.size v1 l) (hb : w.heap.size ≤ w1.heap.size) => number_any (w := w1) n hn hl hb h)
  clear hF hn hl
  go_enter Try.func77, Try.ntmps77
  go_wp2_with (first
    | (go_at_call 93; refine (H2.out w1 v1 HO1.out HB1.out.size).mono ?_; rintro e w2 ⟨v2, rfl, ho2, ht2⟩; have HO2 := Lib.hid ho2; have HB2 := Lib.hid (own_touch_below HO1.out HB1.out ht2); clear ho2 ht2)
    | (go_at_call 76; refine H1.out.mono ?_; rintro e w1 ⟨v1, rfl, ho1, hb1⟩; have HO1 := Lib.hid ho1; have HB1 := Lib.hid hb1; clear ho1 hb1))
  go_ret
  exact ⟨v2, rfl, HO2.out, HB2.out⟩
end
end Go.Proofs.Ytgemnmceflcpcaa
