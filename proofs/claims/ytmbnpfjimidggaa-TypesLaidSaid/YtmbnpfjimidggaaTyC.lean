/- A row with one type more. No memory in sight. -/
import Derived.Test.YtmbnpfjimidggaaTyB
namespace Go.Proofs.Ytmbnpfjimidggaa.Ty
set_option linter.unusedVariables false
set_option linter.unusedSimpArgs false
theorem at_app {L : List Typ} {R : Typ} {t : Int} (h : t < L.length) : at_ (L ++ [R]) t = at_ L t := by
  unfold at_
  by_cases h0 : 0 ≤ t
  · rw [if_pos (⟨h0, by rw [List.length_append]; simp; omega⟩ : 0 ≤ t ∧ t < ((L ++ [R]).length : Int)), if_pos ⟨h0, h⟩, List.getD_eq_getElem?_getD, List.getElem?_append_left (by omega), ← List.getD_eq_getElem?_getD]
  · rw [if_neg (fun g => h0 g.1), if_neg (fun g => h0 g.1)]
theorem at_last {L : List Typ} {R : Typ} : at_ (L ++ [R]) (L.length : Nat) = R := by
  unfold at_
  rw [if_pos ⟨by omega, by rw [List.length_append]; simp; omega⟩, Int.toNat_natCast, List.getD_eq_getElem?_getD]
  simp
theorem recAt_congr {A : List Typ} {base s0 : Int} {F F' : List Fld} (h : F.map (fun f => (f.name, f.type)) = F'.map (fun f => (f.name, f.type))) : ∀ k, recAt A base s0 F k = recAt A base s0 F' k := by
  intro k
  induction k with
  | zero => rfl
  | succ k ih =>
    have hl : F.length = F'.length := by have := congrArg List.length h; simpa using this
    have hn : (F.take k).map Fld.name = (F'.take k).map Fld.name := by
      have := congrArg (fun l => (l.take k).map Prod.fst) h
      simpa [List.map_take, Function.comp_def] using this
    by_cases hk : k < F.length
    · have hk' : k < F'.length := by omega
      have e := congrArg (fun l => l[k]?) h
      simp only [List.getElem?_map, List.getElem?_eq_getElem hk, List.getElem?_eq_getElem hk', Option.map_some, Option.some.injEq, Prod.mk.injEq] at e
      cases hr : recAt A base s0 F k with
      | none => rw [recAt_none hr (k + 1) (by omega), recAt_none (ih ▸ hr) (k + 1) (by omega)]
      | some p =>
        obtain ⟨acc, sz⟩ := p
        rw [recAt_step hr (List.getElem?_eq_getElem hk), recAt_step (ih ▸ hr) (List.getElem?_eq_getElem hk'), e.1, e.2, hn]
    · unfold recAt
      rw [ih, List.getElem?_eq_none (by omega), List.getElem?_eq_none (by omega)]
theorem recAt_le {A : List Typ} {base s0 : Int} {F : List Fld} {n : Nat} {p : List Fld × Int} (h : recAt A base s0 F n = some p) {k : Nat} (hk : k ≤ n) : ∃ q, recAt A base s0 F k = some q := by
  cases hr : recAt A base s0 F k with
  | none => rw [recAt_none hr n hk] at h; cases h
  | some q => exact ⟨q, rfl⟩
/-- What is known of a round that was gone. -/
theorem recAt_round {A : List Typ} {base s0 : Int} {F : List Fld} {k : Nat} {acc : List Fld} {sz : Int} {p : List Fld × Int} {f : Fld} (h : recAt A base s0 F k = some (acc, sz)) (h1 : recAt A base s0 F (k + 1) = some p) (hf : F[k]? = some f) :
    (fld A base f.name).isSome = false ∧ f.name ∉ (F.take k).map Fld.name ∧ thing A f.type = true ∧ p = (acc ++ [⟨f.name, f.type, offOf A sz f.type⟩], offOf A sz f.type + (at_ A f.type).size) := by
  rw [recAt_step h hf] at h1
  split at h1
  · cases h1
  · rename_i hc
    simp only [Option.some.injEq] at h1
    refine ⟨?_, fun g => hc (.inr (.inl (had_iff.2 g))), ?_, h1.symm⟩
    · cases hh : (fld A base f.name).isSome with
      | false => rfl
      | true => exact absurd (.inl hh) hc
    · cases hh : thing A f.type with
      | true => rfl
      | false => exact absurd (.inr (.inr hh)) hc
theorem recAt_len {A : List Typ} {base s0 : Int} {F : List Fld} : ∀ (k : Nat) (acc : List Fld) (sz : Int), k ≤ F.length → recAt A base s0 F k = some (acc, sz) → acc.length = k ∧ acc.map (fun f => (f.name, f.type)) = (F.take k).map (fun f => (f.name, f.type)) := by
  intro k
  induction k with
  | zero =>
    intro acc sz _ h
    simp only [recAt, Option.some.injEq, Prod.mk.injEq] at h
    obtain ⟨rfl, rfl⟩ := h
    exact ⟨rfl, rfl⟩
  | succ k ih =>
    intro acc sz hk h
    obtain ⟨⟨acc', sz'⟩, hr⟩ := recAt_le h (k := k) (by omega)
    have hf : F[k]? = some F[k] := List.getElem?_eq_getElem (by omega)
    obtain ⟨_, _, _, e⟩ := recAt_round hr h hf
    simp only [Prod.mk.injEq] at e
    obtain ⟨h1, h2⟩ := ih acc' sz' (by omega) hr
    refine ⟨by rw [e.1, List.length_append, h1]; rfl, ?_⟩
    rw [e.1, List.map_append, h2, List.take_add_one, hf, List.map_append]
    rfl
/-- What was laid stays where it is. -/
theorem recAt_pre {A : List Typ} {base s0 : Int} {F : List Fld} {k : Nat} {acc : List Fld} {sz : Int} (h : recAt A base s0 F k = some (acc, sz)) (hk : k ≤ F.length) : ∀ (n : Nat) (acc' : List Fld) (sz' : Int), k ≤ n → n ≤ F.length → recAt A base s0 F n = some (acc', sz') →
    ∀ i, i < k → acc'[i]? = acc[i]? := by
  intro n
  induction n with
  | zero =>
    intro acc' sz' h1 _ h2 i hi
    omega
  | succ n ih =>
    intro acc' sz' h1 hn h2 i hi
    by_cases e : k = n + 1
    · subst e; rw [h] at h2; simp only [Option.some.injEq, Prod.mk.injEq] at h2; rw [h2.1]
    · obtain ⟨⟨a2, s2⟩, hr⟩ := recAt_le h2 (k := n) (by omega)
      obtain ⟨_, _, _, e2⟩ := recAt_round hr h2 (List.getElem?_eq_getElem (by omega))
      simp only [Prod.mk.injEq] at e2
      obtain ⟨l1, _⟩ := recAt_len n a2 s2 (by omega) hr
      rw [e2.1, List.getElem?_append_left (by omega)]
      exact ih a2 s2 (by omega) (by omega) hr i hi
/-- A field that was laid. -/
theorem recAt_field {A : List Typ} {base s0 : Int} {F : List Fld} {acc : List Fld} {sz : Int} (h : recAt A base s0 F F.length = some (acc, sz)) {i : Nat} {f : Fld} (hf : F[i]? = some f) :
    ∃ acc1 sz1, recAt A base s0 F i = some (acc1, sz1) ∧ acc[i]? = some ⟨f.name, f.type, offOf A sz1 f.type⟩ ∧ (fld A base f.name).isSome = false ∧ f.name ∉ (F.take i).map Fld.name ∧ thing A f.type = true ∧ recAt A base s0 F (i + 1) = some (acc1 ++ [⟨f.name, f.type, offOf A sz1 f.type⟩], offOf A sz1 f.type + (at_ A f.type).size) := by
  have hi : i < F.length := (List.getElem?_eq_some_iff.1 hf).1
  obtain ⟨⟨a1, s1⟩, hr⟩ := recAt_le h (k := i) (by omega)
  obtain ⟨p, hp⟩ := recAt_le h (k := i + 1) (by omega)
  obtain ⟨g1, g2, g3, e⟩ := recAt_round hr hp hf
  subst e
  refine ⟨a1, s1, hr, ?_, g1, g2, g3, hp⟩
  have := recAt_pre hp (by omega) F.length acc sz (by omega) (Nat.le_refl _) h i (by omega)
  rw [this]
  obtain ⟨l1, _⟩ := recAt_len i a1 s1 (by omega) hr
  rw [List.getElem?_append_right (by omega), l1]
  simp
theorem recordT_again {A : List Typ} {base : Int} {F : List Fld} {T : Typ} (h : recordT A base F = some T) : T.form = 10 ∧ T.base = base ∧ T.fields.length = F.length ∧ recordT A T.base T.fields = some T := by
  obtain ⟨acc, sz, h1, h2, h3, h4, rfl⟩ := recordT_some h
  obtain ⟨l1, l2⟩ := recAt_len _ _ _ (Nat.le_refl _) h4
  rw [List.take_length] at l2
  refine ⟨rfl, rfl, l1, ?_⟩
  unfold recordT
  show (if base ≠ 0 ∧ (at_ A base).form ≠ 10 then none else if 3 < level0 A base ∨ 200 < acc.length then none else _) = _
  rw [if_neg (by omega), if_neg (by omega), recAt_congr l2, l1, h4]
theorem want_app {L : List Typ} {R : Typ} {i : Nat} (hi : i < L.length) {T : Typ} (h : want L i = some T) : want (L ++ [R]) i = some T := by
  have hg : (L ++ [R]).getD i nil_ = L.getD i nil_ := by
    rw [List.getD_eq_getElem?_getD, List.getElem?_append_left hi, ← List.getD_eq_getElem?_getD]
  have ht : (L ++ [R]).take i = L.take i := by rw [List.take_append_of_le_length (by omega)]
  unfold want at h ⊢
  rw [hg, ht]
  split at h
  · rename_i h8; rw [if_pos h8]; exact h
  · rename_i h8; rw [if_neg h8]
    split at h
    · rename_i h9; rw [if_pos h9]; exact h
    · rename_i h9; rw [if_neg h9]
      split at h
      · rename_i h11; rw [if_pos h11]
        unfold pointerT at h ⊢
        split at h
        · rename_i hc
          rw [if_pos]
          · exact h
          · rcases hc with hc | hc
            · exact .inl hc
            · right; rw [at_app (at_rec hc).2]; exact hc
        · cases h
      · rename_i h11; rw [if_neg h11]; exact h
theorem isRowP_app {L : List Typ} {R : Typ} (h : isRowP L) (hl : L.length < 200) (hw : want (L ++ [R]) L.length = some R) (hs : R.size ≤ 16384) : isRowP (L ++ [R]) := by
  refine ⟨by rw [List.length_append]; have := h.1; omega, by rw [List.length_append]; simp; omega, fun i hi => ?_⟩
  rw [List.length_append] at hi; simp at hi
  have hg : ∀ i, i < L.length → (L ++ [R]).getD i nil_ = L.getD i nil_ := fun i hi => by
    rw [List.getD_eq_getElem?_getD, List.getElem?_append_left hi, ← List.getD_eq_getElem?_getD]
  by_cases e : i < L.length
  · have := h.2.2 i e
    unfold stepOk at this ⊢
    rw [hg i e]
    split at this
    · rename_i h8; rw [if_pos h8]; exact this
    · rename_i h8; rw [if_neg h8]
      obtain ⟨T, h1, h2, h3⟩ := this
      exact ⟨T, want_app e h1, h2, h3⟩
  · obtain rfl : i = L.length := by omega
    unfold stepOk
    rw [if_neg (by have := h.1; omega)]
    exact ⟨R, hw, hs, by rw [List.getD_eq_getElem?_getD]; simp⟩
theorem want_rec {L : List Typ} {base : Int} {F : List Fld} {R : Typ} (h : recordT L base F = some R) : want (L ++ [R]) L.length = some R := by
  obtain ⟨h1, h2, h3, h4⟩ := recordT_again h
  have hg : (L ++ [R]).getD L.length nil_ = R := by rw [List.getD_eq_getElem?_getD]; simp
  unfold want
  rw [hg, List.take_left' rfl, h1, if_neg (by decide), if_neg (by decide), if_neg (by decide), if_pos rfl, h4]
theorem fieldN_app {L : List Typ} (G : RowG L) {R : Typ} (nm : ByteArray) : ∀ (n : Nat) (t : Int), t < L.length → fieldN (L ++ [R]) nm n t = fieldN L nm n t
  | 0, t, _ => rfl
  | n + 1, t, h => by
    unfold fieldN
    rw [at_app h]
    by_cases hc : (at_ L t).form = 10
    · rw [if_pos hc, if_pos hc]
      have hlt : (at_ L t).base < L.length := by
        rcases G.rec_ t hc with e | e
        · rw [e]; have := at_rec hc; omega
        · omega
      rw [fieldN_app G nm n _ hlt]
    · rw [if_neg hc, if_neg hc]
theorem fld_app {L : List Typ} (G : RowG L) {R : Typ} {nm : ByteArray} {t : Int} (h : t < L.length) : fld (L ++ [R]) t nm = fld L t nm := by
  unfold fld
  rw [fieldN_app G nm _ t h]
  exact fieldN_more G nm _ _ _ (by rw [List.length_append]; simp; omega) (by omega)
theorem alN_app {L : List Typ} (G : RowG L) {R : Typ} : ∀ (n : Nat) (t : Int), t < L.length → alN (L ++ [R]) n t = alN L n t
  | 0, t, _ => rfl
  | n + 1, t, h => by
    unfold alN
    rw [at_app h]
    by_cases hc : (at_ L t).form = 8
    · rw [if_pos hc, if_pos hc]
      have := G.arr t hc
      exact alN_app G n _ (by omega)
    · rw [if_neg hc, if_neg hc]
theorem al_app {L : List Typ} (G : RowG L) {R : Typ} {t : Int} (h0 : 0 ≤ t) (h : t < L.length) : al (L ++ [R]) t = al L t := by
  unfold al
  rw [alN_app G _ t h]
  exact alN_more G _ _ _ h0 (by rw [List.length_append]; simp; omega) (by omega)
theorem thing_app {L : List Typ} {R : Typ} {t : Int} (h : t < L.length) : thing (L ++ [R]) t = thing L t := by unfold thing; rw [at_app h]
/-! The law of a record that was added. -/
structure LaidG (L : List Typ) (base : Int) (F : List Fld) (R : Typ) : Prop where
  row : isRowP L
  few : L.length < 200
  rec_ : recordT L base F = some R
  size : R.size ≤ 16384
theorem LaidG.right {L : List Typ} {base : Int} {F : List Fld} {R : Typ} (h : LaidG L base F R) : isRowP (L ++ [R]) := isRowP_app h.row h.few (want_rec h.rec_) h.size
theorem LaidG.base_in {L : List Typ} {base : Int} {F : List Fld} {R : Typ} (h : LaidG L base F R) : 0 ≤ base ∧ base < L.length ∧ (base ≠ 0 → (at_ L base).form = 10) := by
  obtain ⟨acc, sz, h1, _⟩ := recordT_some h.rec_
  rcases h1 with h1 | h1
  · have := h.row.1; subst h1; exact ⟨by omega, by omega, fun h => absurd rfl h⟩
  · have := at_rec h1; exact ⟨this.1, this.2, fun _ => h1⟩
theorem LaidG.shape {L : List Typ} {base : Int} {F : List Fld} {R : Typ} (h : LaidG L base F R) : R.form = 10 ∧ R.base = base ∧ R.fields.length = F.length ∧ R.size % 4 = 0 := by
  obtain ⟨acc, sz, h1, h2, h3, h4, rfl⟩ := recordT_some h.rec_
  obtain ⟨l1, _⟩ := recAt_len _ _ _ (Nat.le_refl _) h4
  exact ⟨rfl, rfl, l1, by show (sz + 3) / 4 * 4 % 4 = 0; omega⟩
theorem find_names {l : List Fld} {nm : ByteArray} : (l.find? fun f => decide (f.name = nm)).isSome = true ↔ nm ∈ l.map Fld.name := by
  rw [List.find?_isSome]
  constructor
  · rintro ⟨f, h1, h2⟩; exact List.mem_map.2 ⟨f, h1, by simpa using h2⟩
  · intro h; obtain ⟨f, h1, h2⟩ := List.mem_map.1 h; exact ⟨f, h1, by simpa using h2⟩
theorem LaidG.old {L : List Typ} {base : Int} {F : List Fld} {R : Typ} (h : LaidG L base F R) (hb : base ≠ 0) {f : Fld} (hf : f ∈ (at_ L base).fields) : ∃ x, fld (L ++ [R]) base f.name = some x ∧ fld (L ++ [R]) (L.length : Nat) f.name = some x := by
  have G := rowG_of h.row
  have G' := rowG_of h.right
  obtain ⟨b0, b1, b2⟩ := h.base_in
  have hc := b2 hb
  have hx : ∃ x, fld L base f.name = some x := by
    rw [fld_rec G hc]
    have := find_names.2 (List.mem_map.2 ⟨f, hf, rfl⟩)
    cases hh : (at_ L base).fields.find? (fun g => decide (g.name = f.name)) with
    | none => rw [hh] at this; cases this
    | some x => exact ⟨x, rfl⟩
  obtain ⟨x, hx⟩ := hx
  have hx' : fld (L ++ [R]) base f.name = some x := by rw [fld_app G b1]; exact hx
  refine ⟨x, hx', ?_⟩
  obtain ⟨acc, sz, h1, h2, h3, h4, hR⟩ := recordT_some h.rec_
  obtain ⟨l1, l2⟩ := recAt_len _ _ _ (Nat.le_refl _) h4
  rw [List.take_length] at l2
  have hn : acc.map Fld.name = F.map Fld.name := by
    have := congrArg (List.map Prod.fst) l2
    simpa [Function.comp_def] using this
  have hno : (R.fields.find? fun g => decide (g.name = f.name)) = none := by
    cases hh : R.fields.find? (fun g => decide (g.name = f.name)) with
    | none => rfl
    | some y =>
      have : f.name ∈ R.fields.map Fld.name := find_names.1 (by rw [hh]; rfl)
      rw [hR] at this
      have this : f.name ∈ acc.map Fld.name := this
      rw [hn] at this
      obtain ⟨g, hg, e⟩ := List.mem_map.1 this
      obtain ⟨i, hi⟩ := List.mem_iff_getElem?.1 hg
      obtain ⟨_, _, _, _, g1, _⟩ := recAt_field h4 hi
      rw [e, hx] at g1; cases g1
  rw [fld_rec G' (by rw [at_last]; exact h.shape.1), at_last, hno, h.shape.2.1]
  exact hx'
/-- The fields that were added, each at its place. -/
theorem LaidG.new {L : List Typ} {base : Int} {F : List Fld} {R : Typ} (h : LaidG L base F R) {i : Nat} {f : Fld} (hf : F[i]? = some f) :
    ∃ acc1 sz1, recAt L base (size0 L base) F i = some (acc1, sz1) ∧ 0 ≤ sz1 ∧ sz1 ≤ 16384 + i * 16387 ∧ fld (L ++ [R]) (L.length : Nat) f.name = some ⟨f.name, f.type, offOf L sz1 f.type⟩ ∧ thing L f.type = true ∧
      ∃ acc2, recAt L base (size0 L base) F (i + 1) = some (acc2, offOf L sz1 f.type + (at_ L f.type).size) := by
  have G := rowG_of h.row
  have G' := rowG_of h.right
  obtain ⟨acc, sz, h1, h2, h3, h4, hR⟩ := recordT_some h.rec_
  obtain ⟨a1, s1, e1, e2, e3, e4, e5, e6⟩ := recAt_field h4 hf
  have hi : i < F.length := (List.getElem?_eq_some_iff.1 hf).1
  obtain ⟨_, hnm, g1, g2⟩ := recAt_inv G (size0_bd G base) i a1 s1 (by omega) e1
  refine ⟨a1, s1, e1, g1, g2, ?_, e5, _, e6⟩
  rw [fld_rec G' (by rw [at_last]; exact h.shape.1), at_last]
  have hfi : (R.fields.find? fun g => decide (g.name = f.name)) = some ⟨f.name, f.type, offOf L s1 f.type⟩ := by
    rw [hR]
    show (acc.find? fun g => decide (g.name = f.name)) = _
    rw [List.find?_eq_some_iff_getElem]
    refine ⟨by simp, i, ?_, ?_, ?_⟩
    · exact (List.getElem?_eq_some_iff.1 e2).1
    · exact (List.getElem?_eq_some_iff.1 e2).2
    · intro j hj
      have hp := recAt_pre e1 (by omega) F.length acc sz (by omega) (Nat.le_refl _) h4 j hj
      have hjl : j < acc.length := Nat.lt_trans hj (List.getElem?_eq_some_iff.1 e2).1
      simp only [decide_eq_true_eq, Bool.not_eq_true', decide_eq_false_iff_not]
      intro e
      refine e4 ?_
      rw [← hnm]
      rw [List.getElem?_eq_getElem hjl] at hp
      have := List.mem_of_getElem? hp.symm
      exact List.mem_map.2 ⟨_, this, e⟩
  rw [hfi]
theorem LaidG.end_ {L : List Typ} {base : Int} {F : List Fld} {R : Typ} (h : LaidG L base F R) : ∃ acc sz, recAt L base (size0 L base) F F.length = some (acc, sz) ∧ 0 ≤ sz ∧ sz ≤ R.size ∧ R.size - sz < 4 := by
  have G := rowG_of h.row
  obtain ⟨acc, sz, h1, h2, h3, h4, hR⟩ := recordT_some h.rec_
  obtain ⟨_, _, g1, g2⟩ := recAt_inv G (size0_bd G base) _ acc sz (Nat.le_refl _) h4
  refine ⟨acc, sz, h4, g1, ?_, ?_⟩ <;> rw [hR]
  · show sz ≤ (sz + 3) / 4 * 4; omega
  · show (sz + 3) / 4 * 4 - sz < 4; omega
end Go.Proofs.Ytmbnpfjimidggaa.Ty
