/- Rows of types: what may be one; what a record's fields come to. No memory in sight. -/
import Derived.Test.YtmbnpfjimidggaaTyA
namespace Go.Proofs.Ytmbnpfjimidggaa.Ty
set_option linter.unusedVariables false
set_option linter.unusedSimpArgs false
/-- At what places a type's things stand. -/
def alN (L : List Typ) : Nat → Int → Int
  | 0, _ => 4
  | n + 1, t => if (at_ L t).form = 8 then alN L n (at_ L t).elem else if (at_ L t).form = 2 ∨ (at_ L t).form = 3 ∨ (at_ L t).form = 4 then 1 else 4
def al (L : List Typ) (t : Int) : Int := alN L (L.length + 1) t
/-- A record's field of a name, or one of those that it extends. -/
def fieldN (L : List Typ) (nm : ByteArray) : Nat → Int → Option Fld
  | 0, _ => none
  | n + 1, t => if (at_ L t).form = 10 then
      match (at_ L t).fields.find? (fun f => decide (f.name = nm)) with
      | some f => some f
      | none => fieldN L nm n (at_ L t).base
    else none
def fld (L : List Typ) (t : Int) (nm : ByteArray) : Option Fld := fieldN L nm (L.length + 1) t
def arrayT (A : List Typ) (n elem : Int) : Option Typ := if n < 1 ∨ 16384 < n ∨ thing A elem = false then none else some ⟨8, n, elem, 0, [], n * (at_ A elem).size, 0⟩
def openT (A : List Typ) (elem : Int) : Option Typ := if thing A elem = true then some ⟨9, 0, elem, 0, [], 0, 0⟩ else none
def pointerT (A : List Typ) (r : Int) : Option Typ := if r = 0 ∨ (at_ A r).form = 10 then some ⟨11, 0, r, 0, [], 4, 0⟩ else none
def offOf (A : List Typ) (sz t : Int) : Int := (sz + al A t - 1) / al A t * al A t
def had (l : List ByteArray) (n : ByteArray) : Bool := l.any fun m => decide (m = n)
theorem had_iff {l : List ByteArray} {n : ByteArray} : had l n = true ↔ n ∈ l := by
  unfold had
  rw [List.any_eq_true]
  constructor
  · rintro ⟨x, h1, h2⟩; rw [← of_decide_eq_true h2]; exact h1
  · intro h; exact ⟨n, h, by simp⟩
/-- What k fields come to. -/
def recAt (A : List Typ) (base size0 : Int) (F : List Fld) : Nat → Option (List Fld × Int)
  | 0 => some ([], size0)
  | k + 1 => match recAt A base size0 F k with
    | none => none
    | some (acc, sz) => match F[k]? with
      | none => some (acc, sz)
      | some f => if (fld A base f.name).isSome = true ∨ had ((F.take k).map Fld.name) f.name = true ∨ thing A f.type = false then none
        else some (acc ++ [⟨f.name, f.type, offOf A sz f.type⟩], offOf A sz f.type + (at_ A f.type).size)
def size0 (A : List Typ) (base : Int) : Int := if base = 0 then 0 else (at_ A base).size
def level0 (A : List Typ) (base : Int) : Int := if base = 0 then 0 else (at_ A base).level + 1
def recordT (A : List Typ) (base : Int) (F : List Fld) : Option Typ :=
  if base ≠ 0 ∧ (at_ A base).form ≠ 10 then none
  else if 3 < level0 A base ∨ 200 < F.length then none
  else match recAt A base (size0 A base) F F.length with
    | none => none
    | some (acc, sz) => some ⟨10, 0, 0, base, acc, (sz + 3) / 4 * 4, level0 A base⟩
def want (L : List Typ) (i : Nat) : Option Typ :=
  if (L.getD i nil_).form = 8 then arrayT (L.take i) (L.getD i nil_).len (L.getD i nil_).elem
  else if (L.getD i nil_).form = 9 then openT (L.take i) (L.getD i nil_).elem
  else if (L.getD i nil_).form = 11 then pointerT L (L.getD i nil_).elem
  else if (L.getD i nil_).form = 10 then recordT (L.take i) (L.getD i nil_).base (L.getD i nil_).fields
  else none
def basicSz : List Int := [0, 4, 1, 1, 1, 4, 4, 0]
def basicT (i : Nat) : Typ := ⟨i, 0, 0, 0, [], basicSz.getD i 0, 0⟩
def basicL : List Typ := (List.range 8).map basicT
def stepOk (L : List Typ) (i : Nat) : Prop := if i < 8 then L.getD i nil_ = basicT i else ∃ T, want L i = some T ∧ T.size ≤ 16384 ∧ L.getD i nil_ = T
def isRowP (L : List Typ) : Prop := 8 ≤ L.length ∧ L.length ≤ 200 ∧ ∀ i, i < L.length → stepOk L i
/-- What is known of types that stand ahead. -/
structure RowG (A : List Typ) : Prop where
  arr : ∀ t, (at_ A t).form = 8 → 0 ≤ (at_ A t).elem ∧ (at_ A t).elem < t
  rec_ : ∀ t, (at_ A t).form = 10 → (at_ A t).base = 0 ∨ (0 ≤ (at_ A t).base ∧ (at_ A t).base < t)
  h0 : (at_ A 0).form ≠ 10
  size : ∀ t, 0 ≤ (at_ A t).size ∧ (at_ A t).size ≤ 16384
  level : ∀ t, 0 ≤ (at_ A t).level ∧ (at_ A t).level ≤ 3
  few : A.length ≤ 200
theorem at_take {L : List Typ} {i : Nat} (hi : i ≤ L.length) (t : Int) : at_ (L.take i) t = if 0 ≤ t ∧ t < i then at_ L t else nil_ := by
  unfold at_
  rw [List.length_take, Nat.min_eq_left hi]
  by_cases h : 0 ≤ t ∧ t < (i : Int)
  · rw [if_pos h, if_pos h, if_pos ⟨h.1, by omega⟩, List.getD_eq_getElem?_getD, List.getElem?_take_of_lt (by omega), ← List.getD_eq_getElem?_getD]
  · rw [if_neg h, if_neg h]
theorem at_nat {L : List Typ} {i : Nat} (h : i < L.length) : at_ L (i : Nat) = L.getD i nil_ := by
  unfold at_; rw [if_pos ⟨by omega, by omega⟩, Int.toNat_natCast]
theorem at_out {L : List Typ} {t : Int} (h : ¬ (0 ≤ t ∧ t < L.length)) : at_ L t = nil_ := by unfold at_; rw [if_neg h]
theorem thing_in {L : List Typ} {t : Int} (h : thing L t = true) : 0 ≤ t ∧ t < L.length := by
  by_cases hc : 0 ≤ t ∧ t < L.length
  · exact hc
  · unfold thing at h; rw [at_out hc] at h; exact absurd h (by decide)
theorem alN_12 (L : List Typ) : ∀ n t, alN L n t = 1 ∨ alN L n t = 4
  | 0, t => .inr rfl
  | n + 1, t => by
    unfold alN
    split
    · exact alN_12 L n _
    · split
      · exact .inl rfl
      · exact .inr rfl
theorem al_12 (L : List Typ) (t : Int) : al L t = 1 ∨ al L t = 4 := alN_12 L _ t
theorem off_ge (A : List Typ) (sz t : Int) (h : 0 ≤ sz) : sz ≤ offOf A sz t ∧ offOf A sz t ≤ sz + 3 ∧ offOf A sz t % al A t = 0 := by
  unfold offOf
  rcases al_12 A t with h1 | h1 <;> rw [h1] <;> omega
theorem recAt_none {A : List Typ} {base s0 : Int} {F : List Fld} {k : Nat} (h : recAt A base s0 F k = none) : ∀ n, k ≤ n → recAt A base s0 F n = none := by
  intro n hn
  induction n with
  | zero => obtain rfl : k = 0 := by omega
            exact h
  | succ n ih =>
    by_cases e : k = n + 1
    · rw [← e]; exact h
    · unfold recAt; rw [ih (by omega)]
/-- A round's step. -/
theorem recAt_step {A : List Typ} {base s0 : Int} {F : List Fld} {k : Nat} {acc : List Fld} {sz : Int} {f : Fld} (h : recAt A base s0 F k = some (acc, sz)) (hf : F[k]? = some f) :
    recAt A base s0 F (k + 1) = if (fld A base f.name).isSome = true ∨ had ((F.take k).map Fld.name) f.name = true ∨ thing A f.type = false then none
        else some (acc ++ [⟨f.name, f.type, offOf A sz f.type⟩], offOf A sz f.type + (at_ A f.type).size) := by
  conv => lhs; unfold recAt
  rw [h]; simp only [hf]
theorem recAt_inv {A : List Typ} (G : RowG A) {base s0 : Int} {F : List Fld} (h0 : 0 ≤ s0 ∧ s0 ≤ 16384) : ∀ (k : Nat) (acc : List Fld) (sz : Int), k ≤ F.length → recAt A base s0 F k = some (acc, sz) →
    acc.length = k ∧ acc.map Fld.name = (F.take k).map Fld.name ∧ 0 ≤ sz ∧ sz ≤ 16384 + k * 16387 := by
  intro k
  induction k with
  | zero =>
    intro acc sz _ h
    simp only [recAt, Option.some.injEq, Prod.mk.injEq] at h
    obtain ⟨rfl, rfl⟩ := h
    exact ⟨rfl, rfl, h0.1, by omega⟩
  | succ k ih =>
    intro acc sz hk h
    obtain ⟨f, hf⟩ : ∃ f, F[k]? = some f := ⟨F[k], List.getElem?_eq_getElem (by omega)⟩
    cases hr : recAt A base s0 F k with
    | none => rw [recAt_none hr (k + 1) (by omega)] at h; cases h
    | some p =>
      obtain ⟨acc', sz'⟩ := p
      rw [recAt_step hr hf] at h
      split at h
      · cases h
      · simp only [Option.some.injEq, Prod.mk.injEq] at h
        obtain ⟨rfl, rfl⟩ := h
        obtain ⟨h1, h2, h3, h4⟩ := ih acc' sz' (by omega) hr
        obtain ⟨g1, g2, _⟩ := off_ge A sz' f.type h3
        obtain ⟨s1, s2⟩ := G.size f.type
        refine ⟨by rw [List.length_append, h1]; rfl, ?_, by omega, by omega⟩
        rw [List.map_append, h2, List.take_add_one, hf]
        simp
theorem rowG_nil : RowG [] := by
  have h : ∀ t, at_ [] t = nil_ := fun t => at_out (by rintro ⟨a, b⟩; simp at b; omega)
  refine ⟨fun t g => ?_, fun t g => ?_, ?_, fun t => ?_, fun t => ?_, by simp⟩
  · rw [h] at g; exact absurd g (by decide)
  · rw [h] at g; exact absurd g (by decide)
  · rw [h]; decide
  · rw [h]; decide
  · rw [h]; decide
theorem basic_facts (i : Nat) (hi : i < 8) : (basicT i).form = i ∧ (basicT i).elem = 0 ∧ (basicT i).base = 0 ∧ (basicT i).level = 0 ∧ 0 ≤ (basicT i).size ∧ (basicT i).size ≤ 16384 := by
  refine ⟨rfl, rfl, rfl, rfl, ?_, ?_⟩ <;> (unfold basicT basicSz; match i, hi with
    | 0, _ => decide
    | 1, _ => decide
    | 2, _ => decide
    | 3, _ => decide
    | 4, _ => decide
    | 5, _ => decide
    | 6, _ => decide
    | 7, _ => decide)
theorem recordT_some {A : List Typ} {base : Int} {F : List Fld} {T : Typ} (h : recordT A base F = some T) : ∃ acc sz, (base = 0 ∨ (at_ A base).form = 10) ∧ level0 A base ≤ 3 ∧ F.length ≤ 200 ∧ recAt A base (size0 A base) F F.length = some (acc, sz) ∧ T = ⟨10, 0, 0, base, acc, (sz + 3) / 4 * 4, level0 A base⟩ := by
  unfold recordT at h
  split at h
  · cases h
  · split at h
    · cases h
    · rename_i h1 h2
      cases hr : recAt A base (size0 A base) F F.length with
      | none => rw [hr] at h; cases h
      | some p =>
        obtain ⟨acc, sz⟩ := p
        rw [hr] at h
        simp only [Option.some.injEq] at h
        exact ⟨acc, sz, by omega, by omega, by omega, rfl, h.symm⟩
theorem size0_bd {A : List Typ} (G : RowG A) (base : Int) : 0 ≤ size0 A base ∧ size0 A base ≤ 16384 := by
  unfold size0; split
  · exact ⟨by decide, by decide⟩
  · exact G.size base
theorem level0_bd {A : List Typ} (G : RowG A) (base : Int) : 0 ≤ level0 A base ∧ level0 A base ≤ 4 := by
  unfold level0; split
  · exact ⟨by decide, by decide⟩
  · have := G.level base; omega
theorem want_facts {L : List Typ} {j : Nat} (hj : j < L.length) (G : RowG (L.take j)) {T : Typ} (hw : want L j = some T) (hs : T.size ≤ 16384) (hT : L.getD j nil_ = T) :
    (T.form = 8 → 0 ≤ T.elem ∧ T.elem < j) ∧ (T.form = 10 → T.base = 0 ∨ (0 ≤ T.base ∧ T.base < j)) ∧ 0 ≤ T.size ∧ 0 ≤ T.level ∧ T.level ≤ 3 := by
  have hlen : (L.take j).length = j := by rw [List.length_take]; omega
  unfold want at hw
  rw [hT] at hw
  split at hw
  · rename_i h8
    unfold arrayT at hw
    split at hw
    · cases hw
    · rename_i h1
      simp only [Option.some.injEq] at hw
      have ht : thing (L.take j) T.elem = true := by
        cases h : thing (L.take j) T.elem with
        | true => rfl
        | false => exact absurd (.inr (.inr h)) h1
      have hin := thing_in ht
      rw [hlen] at hin
      have hz := G.size T.elem
      have h3 : 1 ≤ T.len := by omega
      rw [← hw]
      exact ⟨fun _ => by simpa using hin, fun h => absurd h (by simp), Int.mul_nonneg (by omega) hz.1, by simp, by simp⟩
  · split at hw
    · unfold openT at hw
      split at hw
      · simp only [Option.some.injEq] at hw; rw [← hw]
        exact ⟨fun h => absurd h (by simp), fun h => absurd h (by simp), by simp, by simp, by simp⟩
      · cases hw
    · split at hw
      · unfold pointerT at hw
        split at hw
        · simp only [Option.some.injEq] at hw; rw [← hw]
          exact ⟨fun h => absurd h (by simp), fun h => absurd h (by simp), by simp, by simp, by simp⟩
        · cases hw
      · split at hw
        · obtain ⟨acc, sz, h1, h2, h3, h4, h5⟩ := recordT_some hw
          have hl := level0_bd G T.base
          obtain ⟨_, _, h6, _⟩ := recAt_inv G (size0_bd G T.base) T.fields.length acc sz (Nat.le_refl _) h4
          refine ⟨fun h => ?_, fun h => ?_, ?_, ?_, ?_⟩
          · rw [h5] at h; exact absurd h (by simp)
          · rcases h1 with h1 | h1
            · exact .inl h1
            · have := at_rec h1; rw [hlen] at this; exact .inr this
          · rw [h5]; show 0 ≤ (sz + 3) / 4 * 4; omega
          · rw [h5]; exact hl.1
          · rw [h5]; exact h2
        · cases hw
theorem rowG_take {L : List Typ} (hL : L.length ≤ 200) : ∀ i, i ≤ L.length → (∀ j, j < i → stepOk L j) → RowG (L.take i)
  | 0, _, _ => by rw [List.take_zero]; exact rowG_nil
  | i + 1, hi, h => by
    have G := rowG_take hL i (by omega) (fun j hj => h j (by omega))
    have hs := h i (by omega)
    have key : ((L.getD i nil_).form = 8 → 0 ≤ (L.getD i nil_).elem ∧ (L.getD i nil_).elem < i) ∧ ((L.getD i nil_).form = 10 → (L.getD i nil_).base = 0 ∨ (0 ≤ (L.getD i nil_).base ∧ (L.getD i nil_).base < i)) ∧ 0 ≤ (L.getD i nil_).size ∧ (L.getD i nil_).size ≤ 16384 ∧ 0 ≤ (L.getD i nil_).level ∧ (L.getD i nil_).level ≤ 3 := by
      unfold stepOk at hs
      split at hs
      · rename_i h8
        rw [hs]
        obtain ⟨b1, b2, b3, b4, b5, b6⟩ := basic_facts i h8
        exact ⟨fun h => absurd h (by rw [b1]; omega), fun h => absurd h (by rw [b1]; omega), b5, b6, by rw [b4]; decide, by rw [b4]; decide⟩
      · obtain ⟨T, h1, h2, h3⟩ := hs
        obtain ⟨f1, f2, f3, f4, f5⟩ := want_facts (by omega) G h1 h2 h3
        rw [h3]
        exact ⟨f1, f2, f3, h2, f4, f5⟩
    have hat : ∀ t, at_ (L.take (i + 1)) t = at_ (L.take i) t ∨ (t = (i : Int) ∧ at_ (L.take (i + 1)) t = L.getD i nil_) := fun t => by
      rw [at_take hi, at_take (by omega)]
      by_cases e : t = (i : Int)
      · subst e
        right
        refine ⟨rfl, ?_⟩
        rw [if_pos ⟨by omega, by omega⟩, at_nat (by omega)]
      · left
        by_cases h : 0 ≤ t ∧ t < (i : Int)
        · rw [if_pos h, if_pos ⟨h.1, by omega⟩]
        · rw [if_neg h, if_neg (by omega)]
    refine ⟨fun t g => ?_, fun t g => ?_, ?_, fun t => ?_, fun t => ?_, by rw [List.length_take]; omega⟩
    · rcases hat t with e | ⟨e1, e⟩
      · rw [e] at g ⊢; exact G.arr t g
      · rw [e] at g ⊢; rw [e1]; exact key.1 g
    · rcases hat t with e | ⟨e1, e⟩
      · rw [e] at g ⊢; exact G.rec_ t g
      · rw [e] at g ⊢; rw [e1]; exact key.2.1 g
    · rcases hat 0 with e | ⟨e1, e⟩
      · rw [e]; exact G.h0
      · rw [e]
        obtain rfl : i = 0 := by omega
        unfold stepOk at hs
        rw [if_pos (by decide)] at hs
        rw [hs]; decide
    · rcases hat t with e | ⟨e1, e⟩
      · rw [e]; exact G.size t
      · rw [e]; exact ⟨key.2.2.1, key.2.2.2.1⟩
    · rcases hat t with e | ⟨e1, e⟩
      · rw [e]; exact G.level t
      · rw [e]; exact key.2.2.2.2
theorem rowG_of {L : List Typ} (h : isRowP L) : RowG L := by
  have := rowG_take h.2.1 L.length (Nat.le_refl _) h.2.2
  rwa [List.take_length] at this
theorem RowG.ahead {L : List Typ} (G : RowG L) : Ahead L := fun i hi h => G.rec_ i h
/-! The loops' steps. -/
theorem fieldN_more {L : List Typ} (G : RowG L) (nm : ByteArray) : ∀ (n m : Nat) (t : Int), t < n → t < m → fieldN L nm n t = fieldN L nm m t
  | 0, 0, t, _, _ => rfl
  | 0, m + 1, t, h, _ => by
    unfold fieldN; rw [if_neg]; intro h1; have := at_rec h1; omega
  | n + 1, 0, t, _, h => by
    unfold fieldN; rw [if_neg]; intro h1; have := at_rec h1; omega
  | n + 1, m + 1, t, hn, hm => by
    unfold fieldN
    by_cases hc : (at_ L t).form = 10
    · rw [if_pos hc, if_pos hc]
      cases hf : (at_ L t).fields.find? (fun f => decide (f.name = nm)) with
      | some f => rfl
      | none =>
        simp only
        by_cases hb : (at_ L (at_ L t).base).form = 10
        · have := base_lt G.ahead G.h0 hc hb
          exact fieldN_more G nm n m _ (by omega) (by omega)
        · have key : ∀ k, fieldN L nm k (at_ L t).base = none := fun k => by
            cases k with
            | zero => rfl
            | succ k => unfold fieldN; rw [if_neg hb]
          rw [key, key]
    · rw [if_neg hc, if_neg hc]
theorem fld_not {L : List Typ} {t : Int} {nm : ByteArray} (h : (at_ L t).form ≠ 10) : fld L t nm = none := by
  unfold fld fieldN; rw [if_neg h]
theorem fld_rec {L : List Typ} (G : RowG L) {t : Int} {nm : ByteArray} (h : (at_ L t).form = 10) :
    fld L t nm = match (at_ L t).fields.find? (fun f => decide (f.name = nm)) with
      | some f => some f
      | none => fld L (at_ L t).base nm := by
  conv => lhs; unfold fld fieldN
  rw [if_pos h]
  cases hf : (at_ L t).fields.find? (fun f => decide (f.name = nm)) with
  | some f => rfl
  | none =>
    simp only
    have ht := at_rec h
    by_cases hb : (at_ L (at_ L t).base).form = 10
    · have := base_lt G.ahead G.h0 h hb
      exact fieldN_more G nm _ _ _ (by omega) (by omega)
    · rw [fld_not hb]
      cases hn : L.length with
      | zero => rfl
      | succ n => unfold fieldN; rw [if_neg hb]
theorem alN_more {L : List Typ} (G : RowG L) : ∀ (n m : Nat) (t : Int), 0 ≤ t → t < n → t < m → alN L n t = alN L m t
  | 0, _, t, h0, h, _ => by omega
  | n + 1, 0, t, h0, _, h => by omega
  | n + 1, m + 1, t, h0, hn, hm => by
    unfold alN
    by_cases hc : (at_ L t).form = 8
    · rw [if_pos hc, if_pos hc]
      have := G.arr t hc
      exact alN_more G n m _ (by omega) (by omega) (by omega)
    · rw [if_neg hc, if_neg hc]
theorem al_not {L : List Typ} {t : Int} (h : (at_ L t).form ≠ 8) : al L t = if (at_ L t).form = 2 ∨ (at_ L t).form = 3 ∨ (at_ L t).form = 4 then 1 else 4 := by
  unfold al alN; rw [if_neg h]
theorem at_form_in {L : List Typ} {t : Int} (h : (at_ L t).form ≠ 0) : 0 ≤ t ∧ t < L.length := by
  by_cases hc : 0 ≤ t ∧ t < L.length
  · exact hc
  · rw [at_out hc] at h; exact absurd rfl h
theorem al_arr {L : List Typ} (G : RowG L) {t : Int} (h : (at_ L t).form = 8) : al L t = al L (at_ L t).elem := by
  have hin := at_form_in (L := L) (t := t) (by rw [h]; decide)
  have := G.arr t h
  conv => lhs; unfold al alN
  rw [if_pos h]
  exact alN_more G _ _ _ this.1 (by omega) (by omega)
theorem chain_step {L : List Typ} (G : RowG L) {t b : Int} (h1 : (at_ L t).form = 10) (h2 : (at_ L b).form = 10) (hne : t ≠ b) : chain L (L.length + 1) t b = chain L (L.length + 1) (at_ L t).base b := by
  conv => lhs; unfold chain
  rw [if_pos ⟨h1, h2⟩, if_neg hne]
  have ht := at_rec h1
  by_cases hb : (at_ L (at_ L t).base).form = 10
  · have := base_lt G.ahead G.h0 h1 hb
    exact chain_more G.ahead G.h0 _ _ _ _ (by omega) (by omega)
  · have key : ∀ k, chain L k (at_ L t).base b = false := fun k => by
      cases k with
      | zero => rfl
      | succ k => unfold chain; rw [if_neg (fun h => hb h.1)]
    rw [key, key]
theorem chain_eq {L : List Typ} {t b : Int} (h1 : (at_ L t).form = 10) (h2 : (at_ L b).form = 10) (he : t = b) : chain L (L.length + 1) t b = true := by
  unfold chain; rw [if_pos ⟨h1, h2⟩, if_pos he]
theorem chain_not {L : List Typ} {t b : Int} (h : ¬ ((at_ L t).form = 10 ∧ (at_ L b).form = 10)) : chain L (L.length + 1) t b = false := by
  unfold chain; rw [if_neg h]
end Go.Proofs.Ytmbnpfjimidggaa.Ty
